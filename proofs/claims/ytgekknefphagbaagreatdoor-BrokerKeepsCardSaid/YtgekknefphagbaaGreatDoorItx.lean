/- Texts that are owned, sorted; the keys of a map, sorted. No statement of the program. -/
import Derived.Test.YtgekknefphagbaaGreatDoorTdx
import Derived.Test.YtgekknefphagbaaGreatDoorWdx
import Derived.Test.YtgekknefphagbaaGreatDoorSox
import Derived.Shelf.Slices.CompactS
import Derived.Test.YtgekknefphagbaaGreatDoorTgx
import Derived.KernelRfl
import Derived.Test.YtgekknefphagbaaGreatDoorFxx
namespace Go.Proofs.YtgekknefphagbaaGreatDoor
open Go.RowKit
set_option linter.unusedSimpArgs false
set_option linter.unusedVariables false
set_option linter.unusedSectionVars false
section
theorem enc_bs (x:List UInt8):encStr x=Value.string (bs x):=rfl
theorem row_putS {w:World} {F:Own} {pb po n cap:Nat} {cs:List V} (hs:Sim w (.arr 1 (.slice (some ⟨pb,po,none⟩) n cap) cs::F)) (hcz:cap≠0) (m:Nat) (os:Array Obj) (ds:List (List UInt8)) (hd:ds.length<=cap) :
  Sim (Go.Sort.grow (Go.Sort.putRow encStr (Go.Sort.ahead w m) pb po ds.toArray) os) (.arr 1 (.slice (some ⟨pb,po,none⟩) ds.length cap) (ds.map V.str)::F) /\
  Ext w (.arr 1 (.slice (some ⟨pb,po,none⟩) n cap) cs::F) (Go.Sort.grow (Go.Sort.putRow encStr (Go.Sort.ahead w m) pb po ds.toArray) os) (.arr 1 (.slice (some ⟨pb,po,none⟩) ds.length cap) (ds.map V.str)::F):=by
 obtain ⟨s0,hnc,hln,xs,Ty,fr,g1,g2,g3,g4,g5,g6⟩:=arr_of (L1:=[]) hs hcz
 simp only at s0 g1 g2 g3 g4 g5
 have hpb:pb<w.heap.size:=by
  rcases Nat.lt_or_ge pb w.heap.size with h | h
  · exact h
  · rw [Array.getElem?_eq_none h] at g1;cases g1
 generalize hw:Go.Sort.grow (Go.Sort.putRow encStr (Go.Sort.ahead w m) pb po ds.toArray) os=w2
 have hheap:w2.heap=w.heap.modify pb (Go.Sort.onCells (Go.Sort.putCells encStr po ds.toArray))++os:=by rw [<-hw];rfl
 have hmz:(w.heap.modify pb (Go.Sort.onCells (Go.Sort.putCells encStr po ds.toArray))).size=w.heap.size:=Array.size_modify
 have hblk:w2.heap[pb]? = some (.cells (Go.Sort.putCells encStr po ds.toArray xs) Ty fr):=by
  rw [hheap,Array.getElem?_append_left (by rw [hmz];exact hpb),Array.getElem?_modify,if_pos rfl,g1]
  rfl
 have hoth:∀ b,b<w.heap.size->b≠pb->w2.heap[b]? = w.heap[b]?:=by
  intro b hb hne
  rw [hheap,Array.getElem?_append_left (by rw [hmz];exact hb),Array.getElem?_modify,if_neg (Ne.symm hne)]
 have hput:∀ j,(Go.Sort.putCells encStr po ds.toArray xs)[j]? = if po<=j/\j<po+ds.length then (xs[j]?).map (fun _=>encStr (ds.toArray[j - po]!)) else xs[j]?:=by
  intro j
  unfold Go.Sort.putCells
  rw [Array.getElem?_mapIdx,List.size_toArray]
  by_cases hc':po<=j/\j<po+ds.length
  · simp only [if_pos hc']
  · simp only [if_neg hc']
    cases xs[j]? <;> rfl
 have hpsz:(Go.Sort.putCells encStr po ds.toArray xs).size=xs.size:=by simp [Go.Sort.putCells]
 refine Sim.swap (w':=w2) (L1:=[]) hs (e1:=.arr 1 (.slice (some ⟨pb,po,none⟩) ds.length cap) (ds.map V.str)) (by rw [<-hw];rfl) (by rw [<-hw];rfl) (by rw [<-hw];rfl) (by rw [hheap,Array.size_append,hmz];omega)
  (fun b hb hn=>hoth b hb fun e=>hn ⟨e,hcz⟩) (fun q hq hn=>?_) (fun b h=>.inl h) (fun q h=>.inl h) (fun hst=>?_) (by rw [<-hw];exact Nat.le_add_right _ _)
 · have hn':¬ (q.block=pb/\po<=q.off/\q.off<po+cap * 1):=hn
   obtain ⟨u,hu⟩:=Option.isSome_iff_exists.1 hq
   have hqb:=World.block_lt_of_cell? w q hu
   by_cases hqp:q.block=pb
   · unfold World.cell?
     rw [hqp,hblk,g1]
     simp only
     by_cases hsp:q.spot.isSome=true
     · rw [if_pos hsp,if_pos hsp]
     · rw [if_neg hsp,if_neg hsp,hput,if_neg (by omega)]
   · unfold World.cell?
     rw [hoth _ hqb hqp]
 · have hl:(ds.map V.str).length=ds.length:=List.length_map ..
   refine ⟨by omega,by rw [hl,Nat.mul_one],fun _=>⟨rfl,_,Ty,fr,hblk,g2,by rw [hpsz];exact g3,fun t ht=>?_⟩⟩
   rw [hl] at ht
   have hxt:po+t<xs.size:=by omega
   have e1:(Go.Sort.putCells encStr po ds.toArray xs).getD (po+t) undef=encStr (ds[t]):=by
    rw [Array.getD_eq_getD_getElem?,hput,if_pos (by omega),Array.getElem?_eq_getElem hxt]
    simp only [Option.map_some,Option.getD_some,Nat.add_sub_cancel_left]
    rw [getElem!_pos ds.toArray t (by simpa using ht)]
    simp
   have e2:(ds.map V.str).getD t .any=V.str (ds[t]):=by
    rw [List.getD_eq_getElem?_getD,List.getElem?_map,List.getElem?_eq_getElem ht];rfl
   simp only
   rw [e1,e2,enc_bs]
   exact .str _
theorem row_holdsS {w:World} {F:Own} {pb po cap:Nat} {l:List (List UInt8)} (hs:Sim w (.arr 1 (.slice (some ⟨pb,po,none⟩) l.length cap) (l.map V.str)::F)) (hcz:cap≠0):Go.Sort.Holds encStr w pb po l.toArray/\pb<w.heap.size/\l.length<=cap:=by
 obtain ⟨s0,hnc,hln,xs,Ty,fr,g1,g2,g3,g4,g5,g6⟩:=arr_of (L1:=[]) hs hcz
 simp only at s0 g1 g2 g3 g4 g5
 refine ⟨fun t ht=>?_,?_,hnc⟩
 · have ht:t<l.length:=by simpa using ht
   have h:=g4 t (by simpa using ht)
   obtain ⟨h1,h2⟩:=g5 (po+t) (by omega) (by omega)
   have e:(l.map V.str).getD t .any=V.str l[t]:=by
    rw [List.getD_eq_getElem?_getD,List.getElem?_map,List.getElem?_eq_getElem ht];rfl
   rw [e] at h
   refine ⟨?_,h2⟩
   rw [h1,getElem!_pos l.toArray t (by simpa using ht)]
   generalize xs.getD (po+t) undef=u at h
   cases h
   simp [enc_bs]
 · rcases Nat.lt_or_ge pb w.heap.size with h | h
   · exact h
   · rw [Array.getElem?_eq_none h] at g1;cases g1
theorem DC.sortS (he:enterB Tryz.prog 105=true) (l:List Str) (v:Value) (n:Nat) (F:Own) (hn:n=l.length/\l.length<4611686018427387904) :
  DC Tryz.prog 105 [.ar v n] ([.arr 1 v (l.map V.str)]++F) fun d G=>d = .tup []/\G=[.arr 1 v ((Go.Proofs.YtgekknefphagbaaGreatDoor.sortS l).map V.str)]++F:=by
 obtain ⟨rfl,hlen⟩:=hn
 refine ⟨he,fun xs w hs hsz hr=>?_⟩
 have h0:=hr 0 (by simp)
 obtain ⟨x0,rfl⟩:=one_of hsz
 clear hr hsz
 change R _ w x0 (.ar v l.length) at h0
 generalize hN:l.length=N at h0
 cases h0 with
 | ar a _ cap hc ha =>
 subst hN
 by_cases hl0:l=[]
 · subst hl0
   refine (AnyM.slices_Sort_string_none laySortS a cap w).mono ?_
   rintro e w' ⟨rfl,rfl⟩
   exact ⟨_, .tup [],_,rfl,hs, .refl _ _, .tup _ _ rfl (fun k hk=>absurd hk (by simp)),rfl,by simp [Go.Proofs.YtgekknefphagbaaGreatDoor.sortS]⟩
 · have hpos:0<l.length:=List.length_pos_iff.2 hl0
   obtain ⟨hcz,p,rfl⟩:=arr_cap (L1:=[]) hs (by simpa using hpos)
   obtain ⟨pb,po,ps⟩:=p
   obtain ⟨s0,_⟩:=arr_of (L1:=[]) hs hcz
   simp only at s0
   subst s0
   obtain ⟨hH,hb,hcap⟩:=row_holdsS hs hcz
   refine (AnyM.slices_Sort_string laySortS pb po cap l w hH hb hlen).mono ?_
   rintro e w' ⟨rfl,m,os,rfl⟩
   have hz:(Go.Proofs.YtgekknefphagbaaGreatDoor.sortS l).length=l.length:=sortS_len l
   obtain ⟨h1,h2⟩:=row_putS hs hcz m os (Go.Proofs.YtgekknefphagbaaGreatDoor.sortS l) (by rw [hz];exact hcap)
   rw [hz] at h1 h2
   exact ⟨_, .tup [],_,rfl,h1,h2, .tup _ _ rfl (fun k hk=>absurd hk (by simp)),rfl,rfl⟩
theorem DC.mkeys (he:enterB Tryz.prog 123=true) (mk:Nat) (F:Own):True ->
  DC Tryz.prog 123 [.raw (.map (some mk))] (([]:Own)++F) fun d G=>∃ nb,d = .fn (.func (layKeys_ren.f 10)) [] [.raw (.pointer (some ⟨nb,0,none⟩))]/\G = .row nb (.cells #[.map (some mk)] (layKeys_ren.t 23))::F:=fun _=>by
 refine ⟨he,fun xs w hs hsz hr=>?_⟩
 have h0:=hr 0 (by simp)
 obtain ⟨x0,rfl⟩:=one_of hsz
 have h0:R (stable w (([]:Own)++F)) w x0 (.raw (.map (some mk))):=h0
 cases h0
 refine (callsIn_wide.1 (AnyZ.keys_in layKeys Fence.wide 5 trivial rfl (some mk) w)).mono ?_
 rintro e w' ⟨rfl,rfl⟩
 have sw:=hs.add (w':=w.alloc (.cells #[.map (some mk)] (layKeys_ren.t 23))) (e1:=.row w.heap.size (.cells #[.map (some mk)] (layKeys_ren.t 23))) rfl rfl rfl (by simp) (fun b hb=>Below.heap_alloc w _ b hb) (fun b h=>Nat.le_of_eq h.symm) (fun _=>heap_alloc_new w _)
 refine ⟨_, .fn (.func (layKeys_ren.f 10)) [] [.raw (.pointer (some ⟨w.heap.size,0,none⟩))],_,rfl,sw.1,sw.2,?_,w.heap.size,rfl,rfl⟩
 exact .fn _ _ _ _ _ rfl (fun _ h=>absurd h (Nat.not_lt_zero _)) rfl (fun k hk=>by
  match k,hk with
  | 0,_=>exact .raw _)
def RU:Value->Option (DataW Unit×List MemPlace):=fun _=>some (.lit (.bool true),[])
theorem owns_map {w:World} {S:Addr->Prop} {mk:Nat} {l:List (Str×Int)} {ty_:TypeId} (hu:Tryz.prog.underlying ty_=some .string) (h:(Ent.map mk (entM V.str (V.int .i64) l)).holds S w) (hn:(l.map (·.1)).Nodup) (hz:l.length<=1000000000) (hk:∀ x∈l,x.1.length<=1000000000) :
  ∃ D:DataW Unit,w.ownsMap Tryz.prog ty_ RU mk l.length D/\Maps.size D=l.length/\(strKeys D).Perm (l.map (·.1)):=by
 obtain ⟨es,clock,h1,h2,h3,h4,h5⟩:=h
 rw [entM_len] at h2 h3
 have hkey:∀ k,(hk:k<l.length)->(es.getD k default).key=encStr l[k].1:=fun k hk=>by
  have:=(h3 k hk).1
  have e:((entM V.str (V.int .i64) l).getD k (.any, .any)).1 = .str l[k].1:=by simp [entM,List.getD_eq_getElem?_getD,hk]
  rw [e] at this
  generalize (es.getD k default).key=u at this
  cases this;rfl
 have hkeys:es.toList.map (·.key)=l.map fun x=>encStr x.1:=by
  apply List.ext_getElem
  · simp [h2]
  · intro i h1' h2'
    have hi:i<l.length:=by simpa using h2'
    have:=hkey i hi
    have hi':i<es.size:=by omega
    simp only [List.getElem_map,Array.getElem_toList]
    rw [<-this]
    simp [Array.getD_eq_getD_getElem?,hi']
 have hrd:∀ x∈es.toList,∃ y,y∈l/\x.key=encStr y.1:=fun x hx=>by
  have:x.key∈es.toList.map (·.key):=List.mem_map.2 ⟨x,hx,rfl⟩
  rw [hkeys] at this
  obtain ⟨y,hy,e⟩:=List.mem_map.1 this
  exact ⟨y,hy,e.symm⟩
 have hko:∀ y∈l,keyOf Tryz.prog ty_ (encStr y.1)=some (.string y.1):=fun y hy=>by
  have hb:=hk y hy
  have hs:(⟨y.1.toArray⟩:ByteArray).size<=maxLen:=by
   show y.1.toArray.size<=maxLen
   rw [List.size_toArray];unfold maxLen;omega
  simp [keyOf,hu,mapKey,encStr,hs]
 have hrg:∀ x∈es.toList,∃ y∈l,Go.WideElems.rd Tryz.prog ty_ RU x=some (.string y.1, .lit (.bool true))/\x.key=encStr y.1:=fun x hx=>by
  obtain ⟨y,hy,e⟩:=hrd x hx
  refine ⟨y,hy,?_,e⟩
  unfold Go.WideElems.rd
  rw [e,hko y hy];rfl
 refine ⟨_,⟨es,clock,h1,⟨?_,⟨fun x hx=>?_,?_,?_⟩,fun x hx=>?_⟩,by omega,rfl⟩,?_,?_⟩
 · unfold maxLen;omega
 · obtain ⟨i,hi,rfl⟩:=List.getElem_of_mem hx
   have hi':i<es.size:=by simpa using hi
   have:=h5 i hi'
   simpa [Array.getD_eq_getD_getElem?,hi'] using this
 · rw [List.Nodup,List.pairwise_map]
   exact (born_nodup h4).imp fun h=>by omega
 · rw [hkeys]
   rw [List.Nodup,List.pairwise_map] at hn ⊢
   exact hn.imp fun hne e=>hne (encStr_inj e)
 · obtain ⟨y,_,e,_⟩:=hrg x hx
   exact ⟨_,e⟩
 · show ((es.toList.map (Go.WideElems.rg Tryz.prog ty_ RU)).foldr DataW.insert []).length=l.length
   rw [(Go.WideShapes.sorted_perm _).length_eq];simp [h2]
 · show (((es.toList.map (Go.WideElems.rg Tryz.prog ty_ RU)).foldr DataW.insert []).map fun p=>strOf p.1).Perm (l.map (·.1))
   refine ((Go.WideShapes.sorted_perm _).map _).trans (List.Perm.of_eq ?_)
   rw [List.map_map]
   have e1:es.toList.map ((fun p:Lit×DataW Unit=>strOf p.1) ∘ Go.WideElems.rg Tryz.prog ty_ RU)=(es.toList.map (·.key)).map fun v=>match v with | .string s=>s.data.toList | _=>[]:=by
    rw [List.map_map]
    refine List.map_congr_left fun x hx=>?_
    obtain ⟨y,_,e,ek⟩:=hrg x hx
    simp only [Function.comp]
    unfold Go.WideElems.rg
    rw [e,ek]
    simp [strOf,encStr]
   rw [e1,hkeys,List.map_map]
   refine List.map_congr_left fun x _=>?_
   simp [encStr]
theorem owns_rel {w w':World} {H:Own} {T:TypeId} {v:Value} {l:List Str} (hs:Sim w H) (ho:w'.ownsRow w.heap.size T 1 v l.length (l.map encStr)):R (stable w' H) w' v (.sl (l.map V.str)):=by
 obtain ⟨_,⟨rfl,hz⟩ | ⟨g,cap,cur,rfl,hb,hg,hc,_,hsz,htk⟩⟩:=ho
 · obtain rfl:l=[]:=List.length_eq_zero_iff.1 hz
   exact .sl none 0 0 [] 1 rfl (Nat.le_refl _) (fun _=>rfl) (fun _ h=>(nomatch h)) (fun _ h=>absurd h (Nat.not_lt_zero _)) (fun _ _ _ h=>nomatch h) (fun _ _ _ h=>nomatch h)
 · have hcell:∀ i,(hi:i<l.length)->cellAt w' ⟨g,i,none⟩=encStr l[i]/\(w'.cell? ⟨g,i,none⟩).isSome=true:=fun i hi=>by
    have hi2:i<cur.size:=by omega
    have e:cur[i]=encStr l[i]:=by
     have:(cur.toList.take (l.length * 1))[i]? = (l.map encStr)[i]?:=by rw [htk]
     rw [List.getElem?_take,if_pos (by omega),List.getElem?_map,List.getElem?_eq_getElem hi] at this
     simpa [hi2] using this
    have ec:w'.cell? ⟨g,i,none⟩=some (encStr l[i]):=by simp [World.cell?,hg,hi2,e]
    exact ⟨by unfold cellAt;rw [ec];rfl,by rw [ec];rfl⟩
   refine .sl (some ⟨g,0,none⟩) l.length cap (l.map V.str) 1 (by simp) hc (fun h=>nomatch h) (fun b hb _=>by cases hb;rfl) (fun i hi=>?_) (fun b i k hbb hi hk=>?_) (fun b i k hbb hi hk=>?_)
   · have hi':i<l.length:=by simpa using hi
     simp [List.getD_eq_getElem?_getD,hi',V.n]
   · cases hbb
     have hi':i<l.length:=by simpa using hi
     obtain rfl:k=0:=by omega
     refine ⟨by simpa using (hcell i hi').2,fun e he ha=>?_⟩
     have:=owns_lt hs he ha
     simp only at this
     omega
   · cases hbb
     have hi':i<l.length:=by simpa using hi
     obtain rfl:k=0:=by omega
     have e2:(l.map V.str).getD i .any = .str l[i]:=by rw [List.getD_eq_getElem?_getD,List.getElem?_map,List.getElem?_eq_getElem hi'];rfl
     rw [e2]
     show R _ _ (cellAt w' ⟨g,0+i * 1+0,none⟩) (.str l[i])
     rw [show 0+i * 1+0=i by omega,(hcell i hi').1]
     exact .str _
theorem sorts_in (m:Nat):AnyZ.SortsIn Tryz.prog laySorted_ren Fence.wide m :=
 ⟨fun blk off cap ss W hH hblk hsz=>callsIn_wide.2 (AnyM.slices_Sort_string laySortS blk off cap ss W hH hblk hsz),
  fun p cap W=>callsIn_wide.2 (AnyM.slices_Sort_string_none laySortS p cap W)⟩
theorem DC.sortedKeys (he:enterB Tryz.prog 122=true) (he1:∀ args w,(callFunc (laySorted_ren.f 9) args).run Tryz.prog w = .ok (.enter (laySorted_ren.f 9) args) w) (he2:∀ args w,(callFunc (layKeys_ren.f 10) args).run Tryz.prog w = .ok (.enter (layKeys_ren.f 10) args) w)
  (mk nb:Nat) (l:List (Str×Int)) (F:Own):(l.map (·.1)).Nodup/\l.length<=1000000000/\(∀ x∈l,x.1.length<=1000000000) ->
  DC Tryz.prog 122 [.fn (.func (layKeys_ren.f 10)) [] [.raw (.pointer (some ⟨nb,0,none⟩))]] ([loose, .row nb (.cells #[.map (some mk)] (layKeys_ren.t 23)), .map mk (entM V.str (V.int .i64) l)]++F) fun d G=>d = .sl ((Go.Proofs.YtgekknefphagbaaGreatDoor.sortS (l.map (·.1))).map V.str)/\G=[loose, .row nb (.cells #[.map (some mk)] (layKeys_ren.t 23)), .map mk (entM V.str (V.int .i64) l)]++F:=fun ⟨hn,hz,hk⟩=>by
 refine ⟨he,fun xs w hs hsz hr=>?_⟩
 have h0:=hr 0 (by simp)
 obtain ⟨x0,rfl⟩:=one_of hsz
 have h0:R (stable w _) w x0 (.fn (.func (layKeys_ren.f 10)) [] [.raw (.pointer (some ⟨nb,0,none⟩))]):=h0
 obtain ⟨ys,rfl,hy⟩:∃ ys:Array Value,x0 = .func (.func (layKeys_ren.f 10)) #[] ys/\ys = #[.pointer (some ⟨nb,0,none⟩)]:=by
  cases h0 with
  | fn f xs ys cs ds e1 e2 e3 e4 =>
   have hxs:xs = #[]:=Array.eq_empty_of_size_eq_zero e1
   obtain ⟨y,rfl⟩:=one_of e3
   have:=e4 0 (by simp)
   have:R (stable w _) w y (.raw (.pointer (some ⟨nb,0,none⟩))):=this
   subst hxs
   have e:y = .pointer (some ⟨nb,0,none⟩):=by cases this;rfl
   exact ⟨_,rfl,by rw [e]⟩
 subst hy
 have hrow:w.heap[nb]? = some (.cells #[.map (some mk)] (layKeys_ren.t 23)):=hs.holds (.row nb (.cells #[.map (some mk)] (layKeys_ren.t 23))) (by simp)
 have hmap:=hs.holds (.map mk (entM V.str (V.int .i64) l)) (by simp)
 obtain ⟨D,hown,hsD,hpD⟩:=owns_map (ty_:=layKeys_ren.t 26) layKeys.t26 hmap hn hz hk
 have hnb:nb<w.heap.size:=by
  rcases Nat.lt_or_ge nb w.heap.size with h | h
  · exact h
  · rw [Array.getElem?_eq_none h] at hrow;cases hrow
 have hseq:SeqGives Fence.wide 2 Tryz.prog (layKeys_ren.f 10) #[.pointer (some ⟨nb,0,none⟩)] encStr (fun ss=>ss.Perm (strKeys D)) (Maps.size D) w :=
  AnyZ.keys_gives (ρ:=layKeys_ren) { layKeys with } Fence.wide _ trivial rfl (by omega) nb mk l.length D _ hnb (by simp [World.cell?,hrow]) hown
 have c:=AnyZ.sorted_in laySorted Fence.wide 5 trivial trivial trivial trivial rfl (by omega) (sorts_in _) he1 (layKeys_ren.f 10) #[.pointer (some ⟨nb,0,none⟩)] trivial he2 _ _ (by rw [hsD];unfold maxLen;omega) (by rw [hsD];omega) w hseq
 refine (callsIn_wide.1 c).mono ?_
 rintro e w' ⟨v,ss,rfl,hS,hrow',_,hb⟩
 obtain ⟨k1,k2⟩:=hs.moreL (by simp) hb
 have hso:ss.mergeSort (fun x y=>decide (x<=y))=Go.Proofs.YtgekknefphagbaaGreatDoor.sortS (l.map (·.1)):=mergeSort_of_perm (hS.trans hpD)
 rw [hso] at hrow'
 have hlen:ss.length=(Go.Proofs.YtgekknefphagbaaGreatDoor.sortS (l.map (·.1))).length:=by rw [<-hso];exact (List.length_mergeSort ss).symm
 rw [hlen] at hrow'
 exact ⟨v,_,_,rfl,k1,k2,owns_rel hs hrow',rfl,rfl⟩
end
section
theorem row_putT {w:World} {F:Own} {pb po n cap:Nat} {cs:List V} (hs:Sim w (.arr 1 (.slice (some ⟨pb,po,none⟩) n cap) cs::F)) (hcz:cap≠0) (m:Nat) (os:Array Obj) (ds:List (List UInt8)) (hd:ds.length<=cap) (n':Nat) (hn':n'<=ds.length) :
  Sim (Go.Sort.grow (Go.Sort.putRow encStr (Go.Sort.ahead w m) pb po ds.toArray) os) (.arr 1 (.slice (some ⟨pb,po,none⟩) n' cap) ((ds.take n').map V.str)::F) /\
  Ext w (.arr 1 (.slice (some ⟨pb,po,none⟩) n cap) cs::F) (Go.Sort.grow (Go.Sort.putRow encStr (Go.Sort.ahead w m) pb po ds.toArray) os) (.arr 1 (.slice (some ⟨pb,po,none⟩) n' cap) ((ds.take n').map V.str)::F):=by
 obtain ⟨s0,hnc,hln,xs,Ty,fr,g1,g2,g3,g4,g5,g6⟩:=arr_of (L1:=[]) hs hcz
 simp only at s0 g1 g2 g3 g4 g5
 have hpb:pb<w.heap.size:=by
  rcases Nat.lt_or_ge pb w.heap.size with h | h
  · exact h
  · rw [Array.getElem?_eq_none h] at g1;cases g1
 generalize hw:Go.Sort.grow (Go.Sort.putRow encStr (Go.Sort.ahead w m) pb po ds.toArray) os=w2
 have hheap:w2.heap=w.heap.modify pb (Go.Sort.onCells (Go.Sort.putCells encStr po ds.toArray))++os:=by rw [<-hw];rfl
 have hmz:(w.heap.modify pb (Go.Sort.onCells (Go.Sort.putCells encStr po ds.toArray))).size=w.heap.size:=Array.size_modify
 have hblk:w2.heap[pb]? = some (.cells (Go.Sort.putCells encStr po ds.toArray xs) Ty fr):=by
  rw [hheap,Array.getElem?_append_left (by rw [hmz];exact hpb),Array.getElem?_modify,if_pos rfl,g1]
  rfl
 have hoth:∀ b,b<w.heap.size->b≠pb->w2.heap[b]? = w.heap[b]?:=by
  intro b hb hne
  rw [hheap,Array.getElem?_append_left (by rw [hmz];exact hb),Array.getElem?_modify,if_neg (Ne.symm hne)]
 have hput:∀ j,(Go.Sort.putCells encStr po ds.toArray xs)[j]? = if po<=j/\j<po+ds.length then (xs[j]?).map (fun _=>encStr (ds.toArray[j - po]!)) else xs[j]?:=by
  intro j
  unfold Go.Sort.putCells
  rw [Array.getElem?_mapIdx,List.size_toArray]
  by_cases hc':po<=j/\j<po+ds.length
  · simp only [if_pos hc']
  · simp only [if_neg hc']
    cases xs[j]? <;> rfl
 have hpsz:(Go.Sort.putCells encStr po ds.toArray xs).size=xs.size:=by simp [Go.Sort.putCells]
 refine Sim.swap (w':=w2) (L1:=[]) hs (e1:=.arr 1 (.slice (some ⟨pb,po,none⟩) n' cap) ((ds.take n').map V.str)) (by rw [<-hw];rfl) (by rw [<-hw];rfl) (by rw [<-hw];rfl) (by rw [hheap,Array.size_append,hmz];omega)
  (fun b hb hn=>hoth b hb fun e=>hn ⟨e,hcz⟩) (fun q hq hn=>?_) (fun b h=>.inl h) (fun q h=>.inl h) (fun hst=>?_) (by rw [<-hw];exact Nat.le_add_right _ _)
 · have hn':¬ (q.block=pb/\po<=q.off/\q.off<po+cap * 1):=hn
   obtain ⟨u,hu⟩:=Option.isSome_iff_exists.1 hq
   have hqb:=World.block_lt_of_cell? w q hu
   by_cases hqp:q.block=pb
   · unfold World.cell?
     rw [hqp,hblk,g1]
     simp only
     by_cases hsp:q.spot.isSome=true
     · rw [if_pos hsp,if_pos hsp]
     · rw [if_neg hsp,if_neg hsp,hput,if_neg (by omega)]
   · unfold World.cell?
     rw [hoth _ hqb hqp]
 · have hl:((ds.take n').map V.str).length=n':=by rw [List.length_map,List.length_take];omega
   refine ⟨by omega,by rw [hl,Nat.mul_one],fun _=>⟨rfl,_,Ty,fr,hblk,g2,by rw [hpsz];exact g3,fun t ht=>?_⟩⟩
   rw [hl] at ht
   have hxt:po+t<xs.size:=by omega
   have e1:(Go.Sort.putCells encStr po ds.toArray xs).getD (po+t) undef=encStr (ds[t]'(by omega)):=by
    rw [Array.getD_eq_getD_getElem?,hput,if_pos (by omega),Array.getElem?_eq_getElem hxt]
    simp only [Option.map_some,Option.getD_some,Nat.add_sub_cancel_left]
    rw [getElem!_pos ds.toArray t (by simpa using (by omega:t<ds.length))]
    simp
   have e2:((ds.take n').map V.str).getD t .any=V.str (ds[t]'(by omega)):=by
    rw [List.getD_eq_getElem?_getD,List.getElem?_map,List.getElem?_take,if_pos ht,List.getElem?_eq_getElem (by omega)]
    rfl
   simp only
   rw [e1,e2,enc_bs]
   exact .str _
section
variable {P:Program} {ρ : Go.Shelf.Ren}
theorem DC.compactS (L:Lays.n194 P ρ) (he:enterB P (ρ.f 194)=true) (l:List Str) (v:Value) (n:Nat) (F:Own) (hn:n=l.length/\l.length<4611686018427387904) :
  DC P (ρ.f 194) [.ar v n] ([.arr 1 v (l.map V.str)]++F) fun d G=>∃ v',d = .ar v' (Go.Lib.compact l).length/\G=[.arr 1 v' ((Go.Lib.compact l).map V.str)]++F:=by
 obtain ⟨rfl,hlen⟩:=hn
 refine ⟨he,fun xs w hs hsz hr=>?_⟩
 have h0:=hr 0 (by simp)
 obtain ⟨x0,rfl⟩:=one_of hsz
 clear hr hsz
 change R _ w x0 (.ar v l.length) at h0
 generalize hN:l.length=N at h0
 cases h0 with
 | ar a _ cap hc ha =>
 subst hN
 by_cases hl0:l=[]
 · subst hl0
   refine (Any.slices_Compact_string_empty L a cap w).mono ?_
   rintro e w' ⟨rfl,rfl⟩
   exact ⟨_,_,_,rfl,hs, .refl _ _, .ar a 0 cap hc ha,_,rfl,rfl⟩
 · have hpos:0<l.length:=List.length_pos_iff.2 hl0
   obtain ⟨hcz,p,rfl⟩:=arr_cap (L1:=[]) hs (by simpa using hpos)
   obtain ⟨pb,po,ps⟩:=p
   obtain ⟨s0,_⟩:=arr_of (L1:=[]) hs hcz
   simp only at s0
   subst s0
   obtain ⟨hH,hb,hcap⟩:=row_holdsS hs hcz
   refine (Any.slices_Compact_string L pb po cap l w hH (by omega) hcap).mono ?_
   rintro e w' ⟨rfl,m,rfl⟩
   have hz:(Go.Lib.compact l).length<=l.length:=Go.Lib.compact_length_le l
   obtain ⟨h1,h2⟩:=row_putT hs hcz m #[] (Go.Lib.compact l++List.replicate (l.length - (Go.Lib.compact l).length) []) (by simp;omega) (Go.Lib.compact l).length (by simp)
   rw [List.take_left' rfl] at h1 h2
   have hg:∀ w:World,Go.Sort.grow w #[]=w:=fun w=>by simp [Go.Sort.grow]
   rw [hg] at h1 h2
   exact ⟨_,_,_,rfl,h1,h2, .ar _ _ _ (by omega) (fun h=>nomatch h),_,rfl,rfl⟩
end
end
section
set_option maxHeartbeats 4000000
set_option maxRecDepth 100000
def mDrop (m:List Str->Str->Option Int) (p:List Str) (k:Str):List Str->Str->Option Int:=fun q j=>if q=p/\j=k then none else m q j
theorem mDrop_none {m:List Str->Str->Option Int} {p:List Str} {k:Str} (h:m p k=none):mDrop m p k=m:=by
 funext q j
 unfold mDrop
 split
 · rename_i e;rw [e.1,e.2,h]
 · rfl
structure DropP (h h':List Nd) (r:Nat) (m:List Str->Str->Option Int) (p l:List Str) (k:Str):Prop where
 tri:Tri h' r (mDrop m (p++l) k)
 keep:∀ q,(¬ p <+: q\/q=p)->fol h' r q=fol h r q
section
variable {h h1:List Nd} {r b c:Nat} {m:List Str->Str->Option Int} {p t:List Str} {x key:Str} {nd:Nd}
theorem drop_here (ht:Tri h r m) (hp:fol h r p=some b) (hx:fnd h b=some nd):DropP h (setN h { nd with keys:=dropA key nd.keys }) r m p [] key/\(m p key).isSome=(lookA key nd.keys).isSome:=by
 have hk:=ht.has _ _ _ hp hx
 have hn:=(ht.nn _ _ hx).2
 obtain ⟨t1,t2⟩:=ht.keys hp hx (dropA_nodup (k:=key) hn)
 have e:(fun q k=>if q=p then lookA k (dropA key nd.keys) else m q k)=mDrop m p key:=by
  funext q j
  unfold mDrop
  by_cases hq:q=p
  · subst hq
    rw [if_pos rfl,lookA_drop hn,hk]
    by_cases hj:j=key
    · rw [if_pos hj,if_pos ⟨rfl,hj⟩]
    · rw [if_neg hj,if_neg (fun e=>hj e.2)]
  · rw [if_neg hq,if_neg (fun e=>hq e.1)]
 rw [e] at t1
 refine ⟨⟨by rw [List.append_nil];exact t1,fun q _=>t2 q⟩,by rw [hk]⟩
theorem drop_gone (ht:Tri h r m) (hp:fol h r p=some b) (hx:fnd h b=some nd) (hl:lookA x nd.next=none):DropP h h r m p (x::t) key/\(m (p++x::t) key).isSome=false:=by
 have e:m (p++x::t) key=none:=ht.all _ _ (by
  rw [show p++x::t=(p++[x])++t by simp,fol_app,ht.fkid hp hx,hl];rfl)
 exact ⟨⟨by rw [mDrop_none e];exact ht,fun _ _=>rfl⟩,by rw [e];rfl⟩
theorem pre_ne (p:List Str) (x:Str):¬ (p++[x]) <+: p:=fun e=>by have:=e.length_le;simp at this;omega
theorem drop_step (hp:fol h r p=some b) (hf:fol h r (p++[x])=some c) (D:DropP h h1 r m (p++[x]) t key):∃ nd1 nd2,fnd h1 c=some nd1/\fnd h1 b=some nd2/\lookA x nd2.next=some c/\fol h1 r p=some b/\fol h1 r (p++[x])=some c:=by
 have e1:fol h1 r p=some b:=by rw [D.keep _ (.inl (pre_ne p x)),hp]
 have e2:fol h1 r (p++[x])=some c:=by rw [D.keep _ (.inr rfl),hf]
 obtain ⟨nd1,h1'⟩:=D.tri.at e2
 obtain ⟨nd2,h2'⟩:=D.tri.at e1
 exact ⟨nd1,nd2,h1',h2',by rw [<-D.tri.fkid e1 h2',e2],e1,e2⟩
theorem drop_on (D:DropP h h1 r m (p++[x]) t key):DropP h h1 r m p (x::t) key:=by
 have:=D.tri
 refine ⟨by rw [show p++x::t=(p++[x])++t by simp];exact this,fun q hq=>D.keep q ?_⟩
 rcases hq with hq | rfl
 · exact .inl fun e=>hq ((List.prefix_append p [x]).trans e)
 · exact .inl (pre_ne _ x)
theorem drop_prune {nd1 nd2:Nd} (D:DropP h h1 r m (p++[x]) t key) (hy:fnd h1 c=some nd1) (hz:fnd h1 b=some nd2) (hl:lookA x nd2.next=some c) (e1:fol h1 r p=some b) (hn:nd1.next=[]) (hk:nd1.keys=[]):DropP h (setN h1 { nd2 with next:=dropA x nd2.next }) r m p (x::t) key:=by
 have D2:=drop_on D
 obtain ⟨t1,t2⟩:=D2.tri.prune e1 hz hl hy hn hk
 refine ⟨t1,fun q hq=>?_⟩
 rw [t2 q,D2.keep q hq]
 rcases hq with hq | rfl
 · exact fun e=>hq ((List.prefix_append p [x]).trans e)
 · exact pre_ne _ x
theorem app_one (p:List Str) (x:Str) (t:List Str):(p++[x])++t=p++x::t:=by simp
end
theorem fst_do {p q:Prop} (h:p) (k:p->q):q:=k h
theorem len_nil {α:Type} {l:List α} (h:(l.length:Int)=0):l=[]:=List.length_eq_zero_iff.1 (by omega)
attribute [local irreducible] DW SeqD DV DOp DC DVX Nd.own ownH
theorem s_drop1_dc {P Q:Prop} (q:Q) (h:Hid Q->P:=by (intro q;simp (maxSteps:=1000000) (disch:=omega) only [push_cast,↓reduceIte,reduceCtorEq,Nat.reduceAdd,Nat.reduceMul,Nat.reduceLT,Nat.reduceLeDiff,Nat.reduceEqDiff,Nat.reduceSub,Int.reduceToNat,Int.reduceLT,Int.reduceLE,Int.reduceAdd,Int.reduceSub,Int.reduceMul,Int.reduceNeg,Nat.reduceBEq,Int.reduceBEq,Int.reduceBNe,Nat.reduceBNe,Int.reduceEq,hlk,hC,look_nil,upd_nil,look_str,upd_str,drop_str,opt_bool,opt_int,opt_some,entM_nil,entM_len,keyS_89,keyS0_89,zeroD_96,keyS_90,keyS0_90,zeroD_100,keyS_145,keyS0_145,zeroD_4,keyS_172,keyS0_172,zeroD_3,keyS_229,keyS0_229,zeroD_162,upd_strP,upd_strI,drop_str,some_mapC,none_mapC,Option.getD_some,Option.getD_none,Option.isSome_some,Option.isSome_none];exact q.1)):P:=h ⟨q⟩
section
attribute [local push_cast 2000] look_nil upd_nil look_str upd_str drop_str opt_bool opt_int opt_some entM_nil entM_len keyS_89 keyS0_89 zeroD_96 keyS_90 keyS0_90 zeroD_100 keyS_145 keyS0_145 zeroD_4 keyS_172 keyS0_172 zeroD_3 keyS_229 keyS0_229 zeroD_162 upd_strP upd_strI some_mapC none_mapC Option.getD_some Option.getD_none Option.isSome_some Option.isSome_none
theorem drop1_dc (r:Nat) (m:List Str->Str->Option Int) (key:Str) (h:List Nd) (p:List Str) (b:Nat) (nd:Nd) (F:Own):(Tri h r m/\fol h r p=some b/\fnd h b=some nd)->DC Tryz.prog 159 [.raw (.pointer (some ⟨b,0,none⟩)), .sl [], .str key] (ownH h++[]++F) fun d G=>∃ h':List Nd,DropP h h' r m p [] key/\d = .bool (m (p++[]) key).isSome/\G=ownH h'++F:=by
 intro hA
 obtain ⟨ht,hp,hx⟩:=hA
 refine DC.bodyS (n_:=66) (show Tryz.prog.funcs[159]? = some Tryz.f159 by kernel_rfl) rfl rfl (by rfl) ?_
 simp only [env0,List.append_assoc,List.cons_append,List.nil_append]
 have kw:=ksIs [0,1,2,6,8,9,10,13,38,57]
 have ow:=ownIs []
 have dw5:=drIs 5 [] [3,6,7]
 have dw10:=drIs 10 [7] [3,6]
 have hlk:True:=trivial
 have hC:True:=trivial
 have hfa:=drop_here (key:=key) ht hp hx
 repeat' (first
  | ((refine DOp.load_ rfl rfl ?_);(repeat (with_reducible first | refine OnB.here ?_ | refine OnB.next ?_ | (refine OnB.inH (by assumption) ?_;with_reducible intro C) | refine OnB.skip ?_));refine s_drop1_dc ?_)
  | ((refine DOp.look_ rfl rfl ?_);(repeat (with_reducible first | refine OnM.here ?_ | refine OnM.next ?_ | (refine OnM.inN (by assumption) ?_;with_reducible intro C hC) | (refine OnM.inK (by assumption) ?_;with_reducible intro C hC) | refine OnM.skip ?_));refine s_drop1_dc ?_)
  | ((refine DOp.delm_ rfl rfl ?_);(repeat (with_reducible first | refine OnM.here ?_ | refine OnM.next ?_ | (refine OnM.inN (by assumption) ?_;with_reducible intro C hC) | (refine OnM.inK (by assumption) ?_;with_reducible intro C hC) | refine OnM.skip ?_));refine s_drop1_dc ?_)
  | refine g_ ?_
  | ((with_reducible refine And.intro ?_ ?_);(exact sv))
  | (refine DW.cond (by rfl) ?_ ?_<;>(first | exact i0_ | (intro hb;(try simp only [↓reduceCtorEq,not_true_eq_false,not_false_eq_true,hbs,Int.reduceBEq,Int.reduceBNe,Int.reduceEq] at hb);(try refine s_drop1_dc ?_))))
  | ((with_reducible first | refine FVg_cases ?_ ?_ | refine FDg_cases ?_ ?_)<;>(intro hb;rw [hb];revert hb;(first | exact i0_ | (intro hb;(try simp only [↓reduceCtorEq,not_true_eq_false,not_false_eq_true,hbs,Int.reduceBEq,Int.reduceBNe,Int.reduceEq] at hb);(try refine s_drop1_dc ?_)))))
  | ((first | refine rn_ ?_ | refine dn_ ?_ | refine kn_ ?_)<;>(refine s_drop1_dc ?_))
  | ((refine dm_ ?_);(first | (refine DVop.look_ rfl rfl rfl rfl ?_;(repeat (with_reducible first | refine OnM.here ?_ | refine OnM.next ?_));refine s_drop1_dc ?_)))
  | ((refine von_ ?_);refine s_drop1_dc ?_)
  | ((first | (refine DOp.look_ rfl rfl ?_;(repeat (with_reducible first | refine OnM.here ?_ | refine OnM.next ?_))) | (refine DOp.lenm_ rfl rfl ?_;(repeat (with_reducible first | refine OnM.here ?_ | refine OnM.next ?_))) | (refine DOp.delm_ rfl rfl ?_;(repeat (with_reducible first | refine OnM.here ?_ | refine OnM.next ?_))))<;>(refine s_drop1_dc ?_))
  | ((refine on_ ?_);refine s_drop1_dc ?_)
  | refine f_ ?_
  | refine vm_ ?_
  | with_reducible intro b)
 all_goals first
 | (refine ⟨_,_,le.of_eq ?_,⟨_,hfa.1,rfl,rfl⟩,?_⟩;(focus (rw [hfa.2]));(exact sub_);done)
 | (trace_state;fail)
end
theorem s_drop2_dc {P Q:Prop} (q:Q) (h:Hid Q->P:=by (intro q;simp (maxSteps:=1000000) (disch:=omega) only [push_cast,↓reduceIte,reduceCtorEq,Nat.reduceAdd,Nat.reduceMul,Nat.reduceLT,Nat.reduceLeDiff,Nat.reduceEqDiff,Nat.reduceSub,Int.reduceToNat,Int.reduceLT,Int.reduceLE,Int.reduceAdd,Int.reduceSub,Int.reduceMul,Int.reduceNeg,Nat.reduceBEq,Int.reduceBEq,Int.reduceBNe,Nat.reduceBNe,Int.reduceEq,hlk,hC,take_str,look_nil,upd_nil,look_str,upd_str,drop_str,opt_bool,opt_int,opt_some,entM_nil,entM_len,keyS_89,keyS0_89,zeroD_96,keyS_90,keyS0_90,zeroD_100,keyS_145,keyS0_145,zeroD_4,keyS_172,keyS0_172,zeroD_3,keyS_229,keyS0_229,zeroD_162,upd_strP,upd_strI,drop_str,some_mapC,none_mapC,Option.getD_some,Option.getD_none,Option.isSome_some,Option.isSome_none];exact q.1)):P:=h ⟨q⟩
section
attribute [local push_cast 2000] take_str look_nil upd_nil look_str upd_str drop_str opt_bool opt_int opt_some entM_nil entM_len keyS_89 keyS0_89 zeroD_96 keyS_90 keyS0_90 zeroD_100 keyS_145 keyS0_145 zeroD_4 keyS_172 keyS0_172 zeroD_3 keyS_229 keyS0_229 zeroD_162 upd_strP upd_strI some_mapC none_mapC Option.getD_some Option.getD_none Option.isSome_some Option.isSome_none
theorem drop2_dc (r:Nat) (m:List Str->Str->Option Int) (key:Str) (h:List Nd) (p:List Str) (b:Nat) (nd:Nd) (x:Str) (t:List Str) (F:Own):((Tri h r m/\fol h r p=some b/\fnd h b=some nd)/\lookA x nd.next=none/\t.length<=1000000000)->DC Tryz.prog 159 [.raw (.pointer (some ⟨b,0,none⟩)), .sl (.str x::t.map V.str), .str key] (ownH h++[]++F) fun d G=>∃ h':List Nd,DropP h h' r m p (x::t) key/\d = .bool (m (p++(x::t)) key).isSome/\G=ownH h'++F:=by
 intro hA
 obtain ⟨⟨ht,hp,hx⟩,hlk,hlt⟩:=hA
 refine DC.bodyS (n_:=66) (show Tryz.prog.funcs[159]? = some Tryz.f159 by kernel_rfl) rfl rfl (by rfl) ?_
 simp only [env0,List.append_assoc,List.cons_append,List.nil_append]
 have kw:=ksIs [0,1,2,6,8,9,10,13,38,57]
 have ow:=ownIs []
 have dw5:=drIs 5 [] [3,6,7]
 have dw10:=drIs 10 [7] [3,6]
 have hC:True:=trivial
 have hfa:=drop_gone (t:=t) (key:=key) ht hp hx hlk
 repeat' (first
  | ((refine dm_ ?_);(refine DVop.load_ rfl rfl rfl rfl ?_);(repeat (with_reducible first | refine OnB.here ?_ | refine OnB.next ?_ | (refine OnB.inH (by assumption) ?_;with_reducible intro C) | refine OnB.skip ?_));refine s_drop2_dc ?_)
  | ((refine dm_ ?_);(refine DVop.look_ rfl rfl rfl rfl ?_);(repeat (with_reducible first | refine OnM.here ?_ | refine OnM.next ?_ | (refine OnM.inN (by assumption) ?_;with_reducible intro C hC) | (refine OnM.inK (by assumption) ?_;with_reducible intro C hC) | refine OnM.skip ?_));refine s_drop2_dc ?_)
  | ((refine DOp.load_ rfl rfl ?_);(repeat (with_reducible first | refine OnB.here ?_ | refine OnB.next ?_ | (refine OnB.inH (by assumption) ?_;with_reducible intro C) | refine OnB.skip ?_));refine s_drop2_dc ?_)
  | ((refine DOp.look_ rfl rfl ?_);(repeat (with_reducible first | refine OnM.here ?_ | refine OnM.next ?_ | (refine OnM.inN (by assumption) ?_;with_reducible intro C hC) | (refine OnM.inK (by assumption) ?_;with_reducible intro C hC) | refine OnM.skip ?_));refine s_drop2_dc ?_)
  | refine g_ ?_
  | ((with_reducible refine And.intro ?_ ?_);(exact sv))
  | (refine DW.cond (by rfl) ?_ ?_<;>(first | exact i0_ | (intro hb;(try simp only [↓reduceCtorEq,not_true_eq_false,not_false_eq_true,hbs,Int.reduceBEq,Int.reduceBNe,Int.reduceEq] at hb);(try refine s_drop2_dc ?_))))
  | ((with_reducible first | refine FVg_cases ?_ ?_ | refine FDg_cases ?_ ?_)<;>(intro hb;rw [hb];revert hb;(first | exact i0_ | (intro hb;(try simp only [↓reduceCtorEq,not_true_eq_false,not_false_eq_true,hbs,Int.reduceBEq,Int.reduceBNe,Int.reduceEq] at hb);(try refine s_drop2_dc ?_)))))
  | ((first | refine rn_ ?_ | refine dn_ ?_ | refine kn_ ?_)<;>(refine s_drop2_dc ?_))
  | ((refine dm_ ?_);(first | (refine DVop.look_ rfl rfl rfl rfl ?_;(repeat (with_reducible first | refine OnM.here ?_ | refine OnM.next ?_));refine s_drop2_dc ?_)))
  | ((refine von_ ?_);refine s_drop2_dc ?_)
  | ((first | (refine DOp.look_ rfl rfl ?_;(repeat (with_reducible first | refine OnM.here ?_ | refine OnM.next ?_))) | (refine DOp.lenm_ rfl rfl ?_;(repeat (with_reducible first | refine OnM.here ?_ | refine OnM.next ?_))) | (refine DOp.delm_ rfl rfl ?_;(repeat (with_reducible first | refine OnM.here ?_ | refine OnM.next ?_))))<;>(refine s_drop2_dc ?_))
  | ((refine on_ ?_);refine s_drop2_dc ?_)
  | refine f_ ?_
  | refine vm_ ?_
  | with_reducible intro b)
 all_goals first
 | (refine ⟨_,_,le.of_eq ?_,⟨_,hfa.1,rfl,rfl⟩,?_⟩;(focus (rw [hfa.2]));(exact sub_);done)
 | (trace_state;fail)
end
theorem sv_drop3_dc {p:Prop} (h:p:=by first | exact sv | (refine ⟨ht,?_⟩;exact hfc) | fail):p:=h
theorem s_drop3_dc {P Q:Prop} (q:Q) (h:Hid Q->P:=by (intro q;simp (maxSteps:=1000000) (disch:=omega) only [push_cast,↓reduceIte,reduceCtorEq,Nat.reduceAdd,Nat.reduceMul,Nat.reduceLT,Nat.reduceLeDiff,Nat.reduceEqDiff,Nat.reduceSub,Int.reduceToNat,Int.reduceLT,Int.reduceLE,Int.reduceAdd,Int.reduceSub,Int.reduceMul,Int.reduceNeg,Nat.reduceBEq,Int.reduceBEq,Int.reduceBNe,Nat.reduceBNe,Int.reduceEq,hlk,hC,take_str,app_one,look_nil,upd_nil,look_str,upd_str,drop_str,opt_bool,opt_int,opt_some,entM_nil,entM_len,keyS_89,keyS0_89,zeroD_96,keyS_90,keyS0_90,zeroD_100,keyS_145,keyS0_145,zeroD_4,keyS_172,keyS0_172,zeroD_3,keyS_229,keyS0_229,zeroD_162,upd_strP,upd_strI,drop_str,some_mapC,none_mapC,Option.getD_some,Option.getD_none,Option.isSome_some,Option.isSome_none];exact q.1)):P:=h ⟨q⟩
section
attribute [local push_cast 2000] take_str app_one look_nil upd_nil look_str upd_str drop_str opt_bool opt_int opt_some entM_nil entM_len keyS_89 keyS0_89 zeroD_96 keyS_90 keyS0_90 zeroD_100 keyS_145 keyS0_145 zeroD_4 keyS_172 keyS0_172 zeroD_3 keyS_229 keyS0_229 zeroD_162 upd_strP upd_strI some_mapC none_mapC Option.getD_some Option.getD_none Option.isSome_some Option.isSome_none
theorem drop3_dc (r:Nat) (m:List Str->Str->Option Int) (key:Str) (h:List Nd) (p:List Str) (b:Nat) (nd:Nd) (x:Str) (t:List Str) (c:Nat) (F:Own):((Tri h r m/\fol h r p=some b/\fnd h b=some nd)/\lookA x nd.next=some c/\t.length<=1000000000/\(∀ (h:List Nd) (p:List Str) (b:Nat) (F:Own),(Tri h r m/\fol h r p=some b)->DC Tryz.prog 159 [.raw (.pointer (some ⟨b,0,none⟩)), .sl (t.map V.str), .str key] ((ownH h++[])++F) fun d G=>∃ h':List Nd,DropP h h' r m p t key/\d = .bool (m (p++t) key).isSome/\G=ownH h'++F))->DC Tryz.prog 159 [.raw (.pointer (some ⟨b,0,none⟩)), .sl (.str x::t.map V.str), .str key] (ownH h++[]++F) fun d G=>∃ h':List Nd,DropP h h' r m p (x::t) key/\d = .bool (m (p++(x::t)) key).isSome/\G=ownH h'++F:=by
 intro hA
 obtain ⟨⟨ht,hp,hx⟩,hlk,hlt,hcl⟩:=hA
 refine DC.bodyS (n_:=66) (show Tryz.prog.funcs[159]? = some Tryz.f159 by kernel_rfl) rfl rfl (by rfl) ?_
 simp only [env0,List.append_assoc,List.cons_append,List.nil_append]
 have kw:=ksIs [0,1,2,6,8,9,10,13,38,57]
 have ow:=ownIs [48,55]
 have dw5:=drIs 5 [] [3,6,7]
 have dw10:=drIs 10 [7] [3,6]
 have hC:True:=trivial
 have hfc:=(ht.fkid hp hx x).trans hlk
 repeat' (first
  | ((fail_if_success (have zz:=hA5));(refine fst_do (drop_step hp hfc hD1) ?_);(rintro ⟨nd1,nd2,hx1,hx2,hlk,hq1,hq2⟩);(have hA5:True:=trivial))
  | ((refine dm_ ?_);(refine DVop.load_ rfl rfl rfl rfl ?_);(repeat (with_reducible first | refine OnB.here ?_ | refine OnB.next ?_ | (refine OnB.inH (by assumption) ?_;with_reducible intro C) | refine OnB.skip ?_));refine s_drop3_dc ?_)
  | ((refine dm_ ?_);(refine DVop.look_ rfl rfl rfl rfl ?_);(repeat (with_reducible first | refine OnM.here ?_ | refine OnM.next ?_ | (refine OnM.inN (by assumption) ?_;with_reducible intro C hC) | (refine OnM.inK (by assumption) ?_;with_reducible intro C hC) | refine OnM.skip ?_));refine s_drop3_dc ?_)
  | ((refine DOp.load_ rfl rfl ?_);(repeat (with_reducible first | refine OnB.here ?_ | refine OnB.next ?_ | (refine OnB.inH (by assumption) ?_;with_reducible intro C) | refine OnB.skip ?_));refine s_drop3_dc ?_)
  | ((refine DOp.look_ rfl rfl ?_);(repeat (with_reducible first | refine OnM.here ?_ | refine OnM.next ?_ | (refine OnM.inN (by assumption) ?_;with_reducible intro C hC) | (refine OnM.inK (by assumption) ?_;with_reducible intro C hC) | refine OnM.skip ?_));refine s_drop3_dc ?_)
  | ((refine DOp.lenm_ rfl rfl ?_);(repeat (with_reducible first | refine OnM.here ?_ | refine OnM.next ?_ | (refine OnM.inN (by assumption) ?_;with_reducible intro C hC) | (refine OnM.inK (by assumption) ?_;with_reducible intro C hC) | refine OnM.skip ?_));refine s_drop3_dc ?_)
  | ((refine DOp.delm_ rfl rfl ?_);(repeat (with_reducible first | refine OnM.here ?_ | refine OnM.next ?_ | (refine OnM.inN (by assumption) ?_;with_reducible intro C hC) | (refine OnM.inK (by assumption) ?_;with_reducible intro C hC) | refine OnM.skip ?_));refine s_drop3_dc ?_)
  | refine g_ ?_
  | ((with_reducible refine And.intro ?_ ?_);(exact sv_drop3_dc))
  | (refine DW.cond (by rfl) ?_ ?_<;>(first | exact i0_ | (intro hb;(try simp only [↓reduceCtorEq,not_true_eq_false,not_false_eq_true,hbs,Int.reduceBEq,Int.reduceBNe,Int.reduceEq] at hb);(try refine s_drop3_dc ?_))))
  | ((with_reducible first | refine FVg_cases ?_ ?_ | refine FDg_cases ?_ ?_)<;>(intro hb;rw [hb];revert hb;(first | exact i0_ | (intro hb;(try simp only [↓reduceCtorEq,not_true_eq_false,not_false_eq_true,hbs,Int.reduceBEq,Int.reduceBNe,Int.reduceEq] at hb);(try refine s_drop3_dc ?_)))))
  | ((first | refine rn_ ?_ | refine dn_ ?_ | refine kn_ ?_)<;>(refine s_drop3_dc ?_))
  | ((refine dm_ ?_);(first | (refine DVop.look_ rfl rfl rfl rfl ?_;(repeat (with_reducible first | refine OnM.here ?_ | refine OnM.next ?_));refine s_drop3_dc ?_)))
  | ((refine von_ ?_);refine s_drop3_dc ?_)
  | ((first | (refine DOp.look_ rfl rfl ?_;(repeat (with_reducible first | refine OnM.here ?_ | refine OnM.next ?_))) | (refine DOp.lenm_ rfl rfl ?_;(repeat (with_reducible first | refine OnM.here ?_ | refine OnM.next ?_))) | (refine DOp.delm_ rfl rfl ?_;(repeat (with_reducible first | refine OnM.here ?_ | refine OnM.next ?_))))<;>(refine s_drop3_dc ?_))
  | (refine p_ (hcl _ _ _ _) ?_ (ha:=by exact sv_drop3_dc);rintro d H1 ⟨h1,hD1,rfl,rfl⟩<;>refine s_drop3_dc ?_)
  | ((refine on_ ?_);refine s_drop3_dc ?_)
  | refine f_ ?_
  | refine vm_ ?_
  | with_reducible intro b)
 all_goals first
 | (refine ⟨_,_,le.of_eq ?_,⟨_,drop_prune hD1 hx1 hx2 hlk hq1 (len_nil (by assumption)) (len_nil (by assumption)),rfl,rfl⟩,?_⟩;(focus rfl);(exact sub_);done)
 | (refine ⟨_,_,le.of_eq ?_,⟨_,drop_on hD1,rfl,rfl⟩,?_⟩;(focus rfl);(exact sub_);done)
 | (trace_state;fail)
end
end
section
set_option maxHeartbeats 4000000
set_option maxRecDepth 100000
theorem drop_dc (r:Nat) (m:List Str->Str->Option Int) (key:Str):∀ (l:List Str) (h:List Nd) (p:List Str) (b:Nat) (F:Own),(Tri h r m/\fol h r p=some b/\l.length<=1000000000)->DC Tryz.prog 159 [.raw (.pointer (some ⟨b,0,none⟩)), .sl (l.map V.str), .str key] ((ownH h++[])++F) fun d G=>∃ h':List Nd,DropP h h' r m p l key/\d = .bool (m (p++l) key).isSome/\G=ownH h'++F
 | [],h,p,b,F,⟨ht,hp,_⟩=>by
  obtain ⟨x,hx⟩:=ht.at hp
  exact drop1_dc r m key h p b x F ⟨ht,hp,hx⟩
 | y::t,h,p,b,F,⟨ht,hp,hl⟩=>by
  obtain ⟨x,hx⟩:=ht.at hp
  rw [List.length_cons] at hl
  cases hlk:lookA y x.next with
  | none=>exact drop2_dc r m key h p b x y t F ⟨⟨ht,hp,hx⟩,hlk,by omega⟩
  | some c=>exact drop3_dc r m key h p b x y t c F ⟨⟨ht,hp,hx⟩,hlk,by omega,fun h p b F hq=>drop_dc r m key t h p b F ⟨hq.1,hq.2,by omega⟩⟩
theorem mDrop_mOf {L:TL} (hn:(L.map (·.1)).Nodup) (f k:Str):mDrop (mOf L) (spl f) k=mOf (dropA (f,k) L):=by
 funext q j
 unfold mDrop
 by_cases hq:q=spl f
 · subst hq
   rw [mOf_at,mOf_at,lookA_drop hn]
   by_cases e:j=k
   · rw [if_pos ⟨rfl,e⟩,if_pos (by rw [e])]
   · rw [if_neg (fun h=>e h.2),if_neg (fun h=>e (Prod.mk.inj h).2)]
 · rw [if_neg (fun h=>hq h.1)]
   unfold mOf
   by_cases hs:spl (joinS q)=q
   · rw [if_pos hs,if_pos hs,lookA_drop hn,if_neg (fun e=>hq (by rw [<-hs,(Prod.mk.inj e).1]))]
   · rw [if_neg hs,if_neg hs]
theorem no_filter {s:TS} (hs:TOK s) {f:Str} (hf:filterB f=false) (k:Str):lookA (f,k) s.L=none:=lookA_none.2 fun x hx e=>by
 have:=hs.fl x hx
 rw [<-e,hf] at this;cases this
theorem drop_ok {s:TS} (hs:TOK s) {f ky:Str} {h':List Nd} (D:DropP s.h h' s.r (mOf s.L) [] (spl f) ky):TOK ⟨s.r,h',dropA (f,ky) s.L⟩:=by
 have:=D.tri
 rw [List.nil_append,mDrop_mOf hs.nd] at this
 exact ⟨this,dropA_nodup hs.nd,fun e he=>hs.fl e (dropA_sub.subset he),fun e he=>hs.kl e (dropA_sub.subset he)⟩
theorem tdrop_dc (ts:TS) (f ky:Str) (F:Own):(TOK ts/\(spl f).length<=1000000000)->DC Tryz.prog 159 [.raw (.pointer (some ⟨ts.r,0,none⟩)), .sl ((spl f).map V.str), .str ky] ((ownH ts.h++[])++F) fun d G=>∃ ts':TS,(TOK ts'/\ts'.r=ts.r/\ts'.L=dropA (f,ky) ts.L)/\d = .bool (lookA (f,ky) ts.L).isSome/\G=ownH ts'.h++F:=fun ⟨hs,hl⟩=>by
 refine (drop_dc ts.r (mOf ts.L) ky (spl f) ts.h [] ts.r F ⟨hs.tri,rfl,hl⟩).mono fun d G hd=>?_
 obtain ⟨h',D,hd,hG⟩:=hd
 rw [List.nil_append,mOf_at] at hd
 exact ⟨⟨ts.r,h',dropA (f,ky) ts.L⟩,⟨drop_ok hs D,rfl,rfl⟩,hd,hG⟩
theorem len_le {α:Type} [DecidableEq α]:∀ {l l':List α},l.Nodup->(∀ x∈l,x∈l')->l.length<=l'.length
 | [],_,_,_=>Nat.zero_le _
 | x::l,l',hn,hs=>by
  rw [List.nodup_cons] at hn
  obtain ⟨a,b,rfl⟩:=List.append_of_mem (hs x List.mem_cons_self)
  have:=len_le (l':=a++b) hn.2 fun y hy=>by
   have h1:=hs y (List.mem_cons_of_mem _ hy)
   rcases List.mem_append.1 h1 with h1 | h1
   · exact List.mem_append_left _ h1
   · rcases List.mem_cons.1 h1 with rfl | h1
     · exact absurd hy hn.1
     · exact List.mem_append_right _ h1
  simp only [List.length_append,List.length_cons] at this ⊢
  omega
theorem nodeK {s:TS} (hs:TOK s) {f:Str} {c:Nat} {nd:Nd} (hf:fol s.h s.r (spl f)=some c) (hx:fnd s.h c=some nd):keyNd nd.keys/\nd.keys.length<=s.L.length/\(∀ x∈nd.keys,x.1.length<=1000000000)/\∀ x,x∈nd.keys.map (·.1)↔x∈keysL s.L f:=by
 have hn:=(hs.tri.nn _ _ hx).2
 have hl:=nd_keys hs.tri hf hx
 have hm:∀ x,x∈nd.keys.map (·.1)↔(f,x)∈s.L.map (·.1):=fun x=>by rw [<-lookA_isSome,<-lookA_isSome,hl]
 refine ⟨hn,?_,fun x hx'=>?_,fun x=>?_⟩
 · have:=len_le (l:=(nd.keys.map (·.1)).map fun k=>(f,k)) (l':=s.L.map (·.1)) (by
    rw [List.Nodup,List.pairwise_map];exact hn.imp fun h e=>h (Prod.mk.inj e).2) fun x hx'=>by
    obtain ⟨k,hk,rfl⟩:=List.mem_map.1 hx'
    exact (hm k).1 hk
   simpa using this
 · obtain ⟨e,he,e1⟩:=List.mem_map.1 ((hm x.1).1 (List.mem_map.2 ⟨x,hx',rfl⟩))
   have:=hs.kl e he
   rw [e1] at this;exact this
 · rw [hm,(keys_is s.L f).2]
   constructor
   · intro h
     obtain ⟨e,he,e1⟩:=List.mem_map.1 h
     exact ⟨e,he,by rw [e1],by rw [e1]⟩
   · rintro ⟨e,he,e1,e2⟩
     exact List.mem_map.2 ⟨e,he,by rw [<-e1,<-e2]⟩
theorem keysL_none {s:TS} {f:Str} (h:∀ k,lookA (f,k) s.L=none):keysL s.L f=[]:=List.eq_nil_iff_forall_not_mem.2 fun x hx=>by
 obtain ⟨e,he,e1,e2⟩:=((keys_is s.L f).2 x).1 hx
 exact lookA_none.1 (h x) e he (by rw [<-e1,<-e2])
theorem none_of {α:Type} {o:Option α} (h:o.isSome=false):o=none:=by cases o with
 | none=>rfl
 | some _=>cases h
theorem drop_int {L:TL} {f k:Str} (h:(lookA (f,k) L).isSome=true):(((dropA (f,k) L).length:Nat):Int)=(L.length:Int) - 1:=by
 obtain ⟨v,hv⟩:=Option.isSome_iff_exists.1 h
 have:=dropA_len hv
 omega
theorem path_none {s:TS} (hs:TOK s) {f:Str} {k:Nat} (h:fol s.h s.r ((spl f).take k)=none) (j:Str):lookA (f,j) s.L=none:=by
 rw [<-mOf_at]
 refine hs.tri.all _ j ?_
 rw [<-List.take_append_drop k (spl f),fol_app,h];rfl
theorem keys_end {s:TS} {f:Str} {l:IM} (hn:keyNd l) (hm:∀ x,x∈l.map (·.1)↔x∈keysL s.L f):sortS (l.map (·.1))=keysL s.L f:=sort_is hn (keys_is s.L f).1 hm
theorem mkeys_dc (mk:Nat) (F:Own):True->DC Tryz.prog 123 [.raw (.map (some mk))] (([]:Own)++F) fun d G=>∃ nb,d = .fn (.func 176) [] [.raw (.pointer (some ⟨nb,0,none⟩))]/\G = .row nb (.cells #[.map (some mk)] 172)::F:=DC.mkeys (by kernel_rfl) mk F
theorem sortk_dc (mk nb:Nat) (l:IM) (F:Own):(keyNd l/\l.length<=1000000000/\(∀ x∈l,x.1.length<=1000000000))->DC Tryz.prog 122 [.fn (.func 176) [] [.raw (.pointer (some ⟨nb,0,none⟩))]] ([loose, .row nb (.cells #[.map (some mk)] 172), .map mk (entM V.str (V.int .i64) l)]++F) fun d G=>d = .sl ((sortS (l.map (·.1))).map V.str)/\G=[loose, .row nb (.cells #[.map (some mk)] 172), .map mk (entM V.str (V.int .i64) l)]++F :=
 DC.sortedKeys (by kernel_rfl) (enters_of Tryz.func105 (by kernel_rfl) rfl) (enters_of Tryz.func176 (by kernel_rfl) rfl) mk nb l F
attribute [local irreducible] DW SeqD DV DOp DC DVX Nd.own ownH filterB spl keysL
theorem sv_droptop_dc {p:Prop} (h:p:=by first | exact sv | (refine ⟨hs,?_⟩;(have hl6:(spl f).length<=65536:=filterB_lev hb);omega) | fail):p:=h
theorem s_droptop_dc {P Q:Prop} (q:Q) (h:Hid Q->P:=by (intro q;simp (maxSteps:=1000000) (disch:=omega) only [push_cast,↓reduceIte,reduceCtorEq,Nat.reduceAdd,Nat.reduceMul,Nat.reduceLT,Nat.reduceLeDiff,Nat.reduceEqDiff,Nat.reduceSub,Int.reduceToNat,Int.reduceLT,Int.reduceLE,Int.reduceAdd,Int.reduceSub,Int.reduceMul,Int.reduceNeg,Nat.reduceBEq,Int.reduceBEq,Int.reduceBNe,Nat.reduceBNe,Int.reduceEq,hlk,hC,look_nil,upd_nil,look_str,upd_str,drop_str,opt_bool,opt_int,opt_some,entM_nil,entM_len,keyS_89,keyS0_89,zeroD_96,keyS_90,keyS0_90,zeroD_100,keyS_145,keyS0_145,zeroD_4,keyS_172,keyS0_172,zeroD_3,keyS_229,keyS0_229,zeroD_162,upd_strP,upd_strI,drop_str,some_mapC,none_mapC,Option.getD_some,Option.getD_none,Option.isSome_some,Option.isSome_none];exact q.1)):P:=h ⟨q⟩
section
attribute [local push_cast 2000] look_nil upd_nil look_str upd_str drop_str opt_bool opt_int opt_some entM_nil entM_len keyS_89 keyS0_89 zeroD_96 keyS_90 keyS0_90 zeroD_100 keyS_145 keyS0_145 zeroD_4 keyS_172 keyS0_172 zeroD_3 keyS_229 keyS0_229 zeroD_162 upd_strP upd_strI some_mapC none_mapC Option.getD_some Option.getD_none Option.isSome_some Option.isSome_none
theorem droptop_dc (m:Int) (t:Nat) (ts:TS) (f ky:Str) (F:Own):(TOK ts/\f.length<=1000000/\ts.L.length<=1000000000)->DC Tryz.prog 100 [.raw (.pointer (some ⟨t,0,none⟩)), .str f, .str ky] (knF::knA::knM m::(ownT t ts++[])++F) fun d G=>∃ ts':TS,(TOK ts'/\ts'.L=dropA (f,ky) ts.L)/\d = .bool (lookA (f,ky) ts.L).isSome/\G=knF::knA::knM m::(ownT t ts'++F):=by
 intro hA
 obtain ⟨hs,hlf,hln⟩:=hA
 refine DC.bodyS (n_:=29) (show Tryz.prog.funcs[100]? = some Tryz.f100 by kernel_rfl) rfl rfl (by rfl) ?_
 simp only [env0,List.append_assoc,List.cons_append,List.nil_append]
 have kw:=ksIs [0,1,2,6,7,20]
 have ow:=ownIs []
 have dw1:=drIs 1 [10] [1,6,8]
 have hlk:True:=trivial
 have hC:True:=trivial
 simp only [ownT,List.cons_append,List.append_assoc,List.nil_append]
 repeat' (first
  | ((refine DOp.load_ rfl rfl ?_);(repeat (with_reducible first | refine OnB.here ?_ | refine OnB.next ?_ | (refine OnB.inH (by assumption) ?_;with_reducible intro C) | refine OnB.skip ?_));refine s_droptop_dc ?_)
  | ((refine dm_ ?_);(refine DVop.load_ rfl rfl rfl rfl ?_);(repeat (with_reducible first | refine OnB.here ?_ | refine OnB.next ?_ | (refine OnB.inH (by assumption) ?_;with_reducible intro C) | refine OnB.skip ?_));refine s_droptop_dc ?_)
  | refine g_ ?_
  | ((with_reducible refine And.intro ?_ ?_);(exact sv_droptop_dc))
  | (refine DW.cond (by rfl) ?_ ?_<;>(first | exact i0_ | (intro hb;(try simp only [↓reduceCtorEq,not_true_eq_false,not_false_eq_true,hbs,Int.reduceBEq,Int.reduceBNe,Int.reduceEq] at hb);(try refine s_droptop_dc ?_))))
  | ((with_reducible first | refine FVg_cases ?_ ?_ | refine FDg_cases ?_ ?_)<;>(intro hb;rw [hb];revert hb;(first | exact i0_ | (intro hb;(try simp only [↓reduceCtorEq,not_true_eq_false,not_false_eq_true,hbs,Int.reduceBEq,Int.reduceBNe,Int.reduceEq] at hb);(try refine s_droptop_dc ?_)))))
  | ((first | refine rn_ ?_ | refine dn_ ?_ | refine kn_ ?_)<;>(refine s_droptop_dc ?_))
  | ((refine dm_ ?_);(first | ((first | refine v_ (filterA_dc _ _ _) ?_ (ha:=by exact sv_droptop_dc) (hk:=fun q=>q.1) | refine v_ (lev7_dc _ _ _) ?_ (ha:=by exact sv_droptop_dc) (hk:=fun q=>q.1));refine s_droptop_dc ?_)))
  | ((refine von_ ?_);refine s_droptop_dc ?_)
  | ((first | refine q_ (filterA_dc _ _ _) ?_ (ha:=by exact sv_droptop_dc) (hk:=fun q=>q.1) | refine q_ (lev7_dc _ _ _) ?_ (ha:=by exact sv_droptop_dc) (hk:=fun q=>q.1));refine s_droptop_dc ?_)
  | (refine p_ (tdrop_dc _ _ _ _) ?_ (ha:=by exact sv_droptop_dc);rintro d H1 ⟨ts2,⟨hs2,hr2,hL2⟩,rfl,rfl⟩<;>refine s_droptop_dc ?_)
  | ((refine on_ ?_);refine s_droptop_dc ?_)
  | refine f_ ?_
  | refine vm_ ?_
  | with_reducible intro b)
 all_goals first
 | (refine ⟨_,_,le.rfl_,⟨ts2,⟨hs2,hL2⟩,rfl,rfl⟩,?_⟩;(try unfold ownT);(rw [hr2,hL2,drop_int hb]);(exact sub_);done)
 | (refine ⟨_,_,le.rfl_,⟨ts2,⟨hs2,hL2⟩,rfl,rfl⟩,?_⟩;(try unfold ownT);(rw [hr2,hL2,dropA_none (none_of hb)]);(exact sub_);done)
 | (have hno:=no_filter hs hb ky
    refine ⟨_,_,le.of_eq ?_,⟨ts,⟨hs,(dropA_none hno).symm⟩,rfl,rfl⟩,?_⟩;(focus (rw [hno];rfl));(try unfold ownT);(try simp only [List.cons_append]);(exact sub_);done)
 | (trace_state;fail)
end
theorem sv_tkeys_dc {p:Prop} (h:p:=by first | exact sv | (show (spl f).length<=_;omega) | exact ⟨hkn,Nat.le_trans hkz hln,hkb⟩ | fail):p:=h
theorem s_tkeys_dc {P Q:Prop} (q:Q) (h:Hid Q->P:=by (intro q;simp (maxSteps:=1000000) (disch:=omega) only [push_cast,↓reduceIte,reduceCtorEq,Nat.reduceAdd,Nat.reduceMul,Nat.reduceLT,Nat.reduceLeDiff,Nat.reduceEqDiff,Nat.reduceSub,Int.reduceToNat,Int.reduceLT,Int.reduceLE,Int.reduceAdd,Int.reduceSub,Int.reduceMul,Int.reduceNeg,Nat.reduceBEq,Int.reduceBEq,Int.reduceBNe,Nat.reduceBNe,Int.reduceEq,hlk,hC,look_nil,upd_nil,look_str,upd_str,drop_str,opt_bool,opt_int,opt_some,entM_nil,entM_len,keyS_89,keyS0_89,zeroD_96,keyS_90,keyS0_90,zeroD_100,keyS_145,keyS0_145,zeroD_4,keyS_172,keyS0_172,zeroD_3,keyS_229,keyS0_229,zeroD_162,upd_strP,upd_strI,drop_str,some_mapC,none_mapC,Option.getD_some,Option.getD_none,Option.isSome_some,Option.isSome_none];exact q.1)):P:=h ⟨q⟩
section
attribute [local push_cast 2000] look_nil upd_nil look_str upd_str drop_str opt_bool opt_int opt_some entM_nil entM_len keyS_89 keyS0_89 zeroD_96 keyS_90 keyS0_90 zeroD_100 keyS_145 keyS0_145 zeroD_4 keyS_172 keyS0_172 zeroD_3 keyS_229 keyS0_229 zeroD_162 upd_strP upd_strI some_mapC none_mapC Option.getD_some Option.getD_none Option.isSome_some Option.isSome_none
theorem tkeys_dc (m:Int) (t:Nat) (ts:TS) (f:Str) (F:Own):(TOK ts/\f.length<=1000000/\ts.L.length<=1000000000)->DC Tryz.prog 95 [.raw (.pointer (some ⟨t,0,none⟩)), .str f] (loose::knF::knA::knM m::(ownT t ts++[])++F) fun d G=>d = .sl ((keysL ts.L f).map V.str)/\G=(loose::knF::knA::knM m::(ownT t ts++[]))++F:=by
 intro hA
 obtain ⟨hs,hlf,hln⟩:=hA
 refine DC.bodyS (n_:=37) (show Tryz.prog.funcs[95]? = some Tryz.f95 by kernel_rfl) rfl rfl (by rfl) ?_
 simp only [env0,List.append_assoc,List.cons_append,List.nil_append]
 have kw:=ksIs [0,1,4,5,7,10,16,17,18,19,29]
 have ow:=ownIs []
 have hlk:True:=trivial
 have hC:True:=trivial
 simp only [ownT,List.cons_append,List.append_assoc,List.nil_append]
 repeat' (first
  | ((fail_if_success (have zz:=hop));(obtain ⟨_,rfl⟩:=fnd_some hx);(with_reducible apply DW.openR 11 hx);(repeat (with_reducible first | refine OutL.here ?_ | refine OutL.next ?_ | refine OutL.skip ?_));(intro g1 g2 hg);(have hop:True:=trivial);(unfold Nd.own;simp only [List.cons_append,List.nil_append]))
  | ((refine DOp.load_ rfl rfl ?_);(repeat (with_reducible first | refine OnB.here ?_ | refine OnB.next ?_ | (refine OnB.inH (by assumption) ?_;with_reducible intro C) | refine OnB.skip ?_));refine s_tkeys_dc ?_)
  | ((refine DOp.look_ rfl rfl ?_);(repeat (with_reducible first | refine OnM.here ?_ | refine OnM.next ?_ | (refine OnM.inN (by assumption) ?_;with_reducible intro C hC) | (refine OnM.inK (by assumption) ?_;with_reducible intro C hC) | refine OnM.skip ?_));refine s_tkeys_dc ?_)
  | ((with_reducible refine DW.loopB 0 (X:=Nat×Nat) (fun x=>x.1<=(spl f).length/\fol ts.h ts.r ((spl f).take x.1)=some x.2) (fun x=>[(5, .raw (.pointer (some ⟨x.2,0,none⟩))),(16, .sl ((spl f).map V.str)),(17, .int .i64 (spl f).length),(18, .int .i64 x.1)]) (fun x=>([]:Own)) (fun x=>(spl f).length - x.1) ((0,ts.r)) ?_ ?_ ?_);exact (⟨Nat.zero_le _,rfl⟩);(simp [Sub,get,keepL]<;>fail);(try simp only [List.append_assoc,List.cons_append,List.nil_append]);refine pl_ ?_;intro ⟨k,c⟩ ⟨hk,hf⟩;(try simp only [List.append_assoc,List.cons_append,List.nil_append]);(try simp only at hk hf);have hl6:(spl f).length<=65536:=filterB_lev (by assumption);(obtain ⟨nd,hx⟩:=hs.tri.at hf);by_cases hkl:k<(spl f).length;(rcases hlk:lookA ((spl f).getD k default) nd.next with _ | c2);rotate_left 2;((have hkl2:k=(spl f).length:=by omega);(rw [hkl2,List.take_length] at hf);(obtain ⟨hkn,hkz,hkb,hkm⟩:=nodeK hs hf hx)))
  | refine g_ ?_
  | ((with_reducible refine And.intro ?_ ?_);(exact sv_tkeys_dc))
  | (refine DW.cond (by rfl) ?_ ?_<;>(first | exact i0_ | (intro hb;(try simp only [↓reduceCtorEq,not_true_eq_false,not_false_eq_true,hbs,Int.reduceBEq,Int.reduceBNe,Int.reduceEq] at hb);(try refine s_tkeys_dc ?_))))
  | ((with_reducible refine FVg_cases ?_ ?_)<;>(intro hb;rw [hb];revert hb;(first | exact i0_ | (intro hb;(try simp only [↓reduceCtorEq,not_true_eq_false,not_false_eq_true,hbs,Int.reduceBEq,Int.reduceBNe,Int.reduceEq] at hb);(try refine s_tkeys_dc ?_)))))
  | ((first | refine rn_ ?_ | refine kn_ ?_)<;>(refine s_tkeys_dc ?_))
  | ((first | (refine DOp.look_ rfl rfl ?_;(repeat (with_reducible first | refine OnM.here ?_ | refine OnM.next ?_))) | (refine DOp.lenm_ rfl rfl ?_;(repeat (with_reducible first | refine OnM.here ?_ | refine OnM.next ?_))))<;>(refine s_tkeys_dc ?_))
  | ((first | refine q_ (filterA_dc _ _ _) ?_ (ha:=by exact sv_tkeys_dc) (hk:=fun q=>q.1) | refine q_ (lev7_dc _ _ _) ?_ (ha:=by exact sv_tkeys_dc) (hk:=fun q=>q.1));refine s_tkeys_dc ?_)
  | (refine p_ (mkeys_dc _ _) ?_ (ha:=by exact sv_tkeys_dc);rintro d H1 ⟨nb,rfl,rfl⟩<;>refine s_tkeys_dc ?_)
  | (refine q_ (sortk_dc _ _ _ _) ?_ (ha:=by exact sv_tkeys_dc) (hk:=fun q=>q.1);refine s_tkeys_dc ?_)
  | ((refine on_ ?_);refine s_tkeys_dc ?_)
  | refine f_ ?_
  | with_reducible intro b)
 all_goals first
 | (have hno:=fun k=>no_filter hs (by assumption) k
    rw [keysL_none hno];(first | exact fin_ | refine finq_ ?_);done)
 | (have hno:∀ j,lookA (f,j) ts.L=none:=path_none hs (k:=k+1) (by rw [take_s hkl,hs.tri.fkid hf hx];exact hlk)
    rw [keysL_none hno];(first | exact fin_ | refine finq_ ?_);done)
 | (refine ⟨(k+1,c2),⟨by (try simp only);omega,?_⟩,by (try simp only);omega,by simp [Sub,get],?_⟩;(focus ((try dsimp only);rw [take_s hkl,hs.tri.fkid hf hx];exact hlk));((try dsimp only);(exact sub_));done)
 | (rw [keys_end hkn hkm,hg];(refine ⟨_,_,le.rfl_,⟨rfl,rfl⟩,?_⟩);(repeat (first | refine SubP.pick ?_ | refine Out.here ?_ | refine Out.next ?_ | refine Out.skip ?_));(refine SubP.closeR ?_);(unfold Nd.own;simp only [List.cons_append,List.nil_append]);(exact sub_);done)
 | (trace_state;fail)
end
end
section
set_option maxHeartbeats 4000000
set_option maxRecDepth 100000
attribute [local irreducible] DW SeqD DV DOp DC DVX Nd.own ownH nameB spl matchL vis foldM hidT sortS
section
attribute [local push_cast 2000] look_nil upd_nil look_str upd_str drop_str opt_bool opt_int opt_some entM_nil entM_len keyS_89 keyS0_89 zeroD_96 keyS_90 keyS0_90 zeroD_100 keyS_145 keyS0_145 zeroD_4 keyS_172 keyS0_172 zeroD_3 keyS_229 keyS0_229 zeroD_162 upd_strP upd_strI some_mapC none_mapC Option.getD_some Option.getD_none Option.isSome_some Option.isSome_none
end
end
end Go.Proofs.YtgekknefphagbaaGreatDoor
