/- Numbers as digits, texts as hex digits, as the program tells them. -/
import Derived.Test.YtifdpbghkccaoaaGreatDoorEqx
import Derived.KernelRfl
import Derived.Lib.ItoaLen
import Derived.Test.YtifdpbghkccaoaaGreatDoorRf1x
import Derived.Shelf.SlSortCmp.WholeK
import Derived.Shelf.SlSortCmp.NoneTotal
namespace Go.Proofs.YtifdpbghkccaoaaGreatDoor
open Go.RowKit
set_option linter.unusedSimpArgs false
set_option linter.unusedVariables false
set_option linter.unusedSectionVars false
set_option maxHeartbeats 4000000
set_option maxRecDepth 100000
section
abbrev knP (T:TypeId) (fr:Nat×Nat):Ent:=.row 3 (pow10O T fr)
def i64b (n:Int):Prop:=-9223372036854775808<=n/\n<=9223372036854775807
theorem itoa_len {n:Int} (h:i64b n):(Lib.itoa n).length<=21:=Lib.itoa_length_le n h.1 h.2
attribute [local irreducible] DW SeqD DV DOp DC DVX Lib.itoa
theorem sv_thex_dc {p:Prop} (h:p:=by first | exact sv | exact hex_hi _ | exact hex_lo _ | fail):p:=h
section
attribute [local push_cast 2000] u8 bytes_are bytes_back
theorem thex_dc (t:List UInt8) (F:Own):(t.length<=1000000000)->DC Tryz.prog 110 [.str t] (([]:Own)++F) fun d G=>d = .str (hexK t t.length)/\G=[]++F:=by
 intro hA
 have ht:=hA
 refine DC.bodyS (n_:=26) (show Tryz.prog.funcs[110]? = some Tryz.f110 by kernel_rfl) rfl rfl (by rfl) ?_
 simp only [env0,List.cons_append,List.nil_append]
 have kw:=ksIs [0,2,3,4,6,7,8]
 have ow:=ownIs []
 have dw5:=drIs 5 [12] []
 refine DW.tail0 1 ?_
 repeat' (first
  | ((with_reducible refine DW.loopB 0 (X:=Nat×Value) (fun x=>x.1<=t.length) (fun x=>[(0, .str t),(3, .gs x.2 ((hexK t x.1).map u8)),(6, .int .i64 t.length),(7, .int .i64 x.1)]) (fun x=>.tail 1 x.2::([]:Own)) (fun x=>t.length - x.1) ((0, .slice none 0 0)) ?_ ?_ ?_);exact (Nat.zero_le _);(simp [Sub,get,keepL,hexK_0]<;>fail);(try simp only [List.cons_append,List.nil_append]);refine pl_ ?_;intro ⟨k,v⟩ hk;(try simp only [List.cons_append,List.nil_append]);simp only at hk;have hkl:=hexK_len t k)
  | refine g_ ?_
  | ((with_reducible refine And.intro ?_ ?_);(exact sv_thex_dc))
  | (refine DW.cond (by rfl) ?_ ?_<;>(first | exact i0_ | (refine ic_ ?_;intro hb)))
  | ((with_reducible first | refine FVg_cases ?_ ?_ | refine FDg_cases ?_ ?_)<;>(intro hb;rw [hb];revert hb;(first | exact i0_ | (refine i_ ?_;intro hb))))
  | refine r_ ?_
  | refine d_ ?_
  | refine k_ ?_
  | refine vo_ ?_
  | refine o_ ?_
  | refine f_ ?_
  | refine vm_ ?_
  | with_reducible intro b)
 all_goals first
 | (have hkl2:k=t.length:=by omega
    subst hkl2
    (first | exact fin_ | refine finq_ ?_);done)
 | (refine ⟨(k+1,b),?_,?_,?_,?_⟩;(((try simp only);omega));(((try simp only);omega));(simp [Sub,get,u8,hexK_more,hexA,hexB,hexL]<;>(fail));(try dsimp only);(exact sub_);done)
 | (trace_state;fail)
end
end
section
attribute [local irreducible] DW SeqD DV DOp DC DVX
def chkF:Nat->Str->Bool
 | 0,_=>true
 | f+1,l=>if l.length=0 then true else (stepM l).2.2&&(stepM l).1 != 0&&chkF f (l.drop (stepM l).2.1.toNat)
def chkB (l:Str):Bool:=chkF l.length l
theorem chkF_nil:∀ f,chkF f []=true
 | 0=>rfl
 | f+1=>by unfold chkF;simp
theorem chkF_more (f:Nat) {l:Str} (h:l.length≠0):chkF (f+1) l=((stepM l).2.2&&(stepM l).1 != 0&&chkF f (l.drop (stepM l).2.1.toNat)):=by
 conv=>lhs;unfold chkF
 rw [if_neg h]
theorem dropM1 (n:Nat) (l:Str):List.drop n (List.map u8 l)=List.map u8 (List.drop n l):=List.map_drop.symm
theorem takeM1 (n:Nat) (l:Str):List.take n (List.map u8 l)=List.map u8 (List.take n l):=List.map_take.symm
theorem takeL1 (l:Str):List.take l.length l=l:=List.take_length
theorem chk_bad {l:Str} {f k:Nat} (hk:k<l.length) (hf:l.length - k<=f) (h:(stepM (l.drop k)).2.2=false\/(stepM (l.drop k)).1=0):chkF f (l.drop k)=false:=by
 obtain ⟨g,rfl⟩:∃ g,f=g+1:=⟨f - 1,by omega⟩
 rw [chkF_more g (by rw [List.length_drop];omega)]
 rcases h with h | h<;>rw [h]<;>simp
theorem chk_go {l:Str} {f k:Nat} (hk:k<l.length) (hf:l.length - k<=f) (h1:(stepM (l.drop k)).2.2=true) (h2:¬ (stepM (l.drop k)).1=0):∃ m g:Nat,((stepM (l.drop k)).2.1=(m:Int))/\1<=m/\k+m<=l.length/\l.length - (k+m)<=g/\chkF f (l.drop k)=chkF g (l.drop (k+m)):=by
 obtain ⟨g,rfl⟩:∃ g,f=g+1:=⟨f - 1,by omega⟩
 have hne:l.drop k≠[]:=fun e=>by have:=congrArg List.length e;rw [List.length_drop] at this;simp at this;omega
 obtain ⟨a1,a2⟩:=stepM_ok hne h1
 rw [List.length_drop] at a2
 refine ⟨(stepM (l.drop k)).2.1.toNat,g,by omega,by omega,by omega,by omega,?_⟩
 rw [chkF_more g (by rw [List.length_drop];omega),h1,List.drop_drop]
 have:((stepM (l.drop k)).1 != 0)=true:=by simpa using h2
 rw [this]
 rfl
theorem sv_check_dc {p:Prop} (h:p:=by first | exact sv | (simp [u8];omega) | (simp [u8]<;>omega) | (simp only [List.length_drop];omega) | fail):p:=h
section
attribute [local push_cast 2000] dropM1 takeM1 takeL1 List.length_drop
theorem check_dc (l:Str) (F:Own):(l.length<=1000000000)->DC Tryz.prog 142 [.sl (l.map u8)] (([]:Own)++F) fun d G=>∃ i:Int,d = .int .i64 i/\decide (i<0)=chkB l/\G=[]++F:=by
 intro hA
 have hl:=hA
 refine DC.bodyS (n_:=29) (show Tryz.prog.funcs[142]? = some Tryz.f142 by kernel_rfl) rfl rfl (by rfl) ?_
 simp only [env0,List.cons_append,List.nil_append]
 have kw:=ksIs [0,2,3,4,5,6,10,24]
 have ow:=ownIs []
 repeat' (first
  | ((with_reducible refine DW.loopB 0 (X:=Nat) (fun x=>x<=l.length/\∃ f,l.length - x<=f/\chkB l=chkF f (l.drop x)) (fun x=>[(0, .sl (l.map u8)),(3, .int .i64 x)]) (fun x=>([]:Own)) (fun x=>l.length - x) (0) ?_ ?_ ?_);exact (⟨Nat.zero_le _,l.length,by omega,by rw [List.drop_zero];rfl⟩);(simp [Sub,get,keepL]<;>fail);(try simp only [List.cons_append,List.nil_append]);refine pl_ ?_;intro k ⟨hk,f,hf,ha⟩;(try simp only [List.cons_append,List.nil_append]))
  | refine g_ ?_
  | ((with_reducible refine And.intro ?_ ?_);(exact sv_check_dc))
  | (refine DW.cond (by rfl) ?_ ?_<;>(first | exact i0_ | (refine ic_ ?_;intro hb)))
  | ((with_reducible refine FVg_cases ?_ ?_)<;>(intro hb;rw [hb];revert hb;(first | exact i0_ | (refine i_ ?_;intro hb))))
  | refine r_ ?_
  | refine k_ ?_
  | (refine q_ (step_dc _ _) ?_ (ha:=by exact sv_check_dc))
  | refine o_ ?_
  | refine f_ ?_
  | with_reducible intro b)
 all_goals first
 | (have hkl:k=l.length:=by omega
    subst hkl
    rw [List.drop_length,chkF_nil] at ha
    refine ⟨_,_,le.rfl_,⟨-1,rfl,by rw [ha];rfl,rfl⟩,SubP.refl⟩)
 | (have hb2:=chk_bad (show k<l.length by omega) hf (by first | (left;assumption) | (right;assumption))
    rw [hb2] at ha
    refine ⟨_,_,le.rfl_,⟨(k:Int),rfl,by rw [ha];exact decide_eq_false (by omega),rfl⟩,SubP.refl⟩)
 | (obtain ⟨m,g,e1,e2,e3,e4,e5⟩:=chk_go (show k<l.length by omega) hf (by assumption) (by assumption)
    refine ⟨k+m,⟨e3,g,e4,by rw [ha,e5]⟩,by omega,?_,?_⟩;(simp [Sub,get,e1,wrap_i64 ((k:Int)+(m:Int)) (by omega) (by omega)]<;>fail);(exact sub_);done)
end
def textB (t:Str):Bool:=decide (1<=t.length)&&decide (t.length<=65535)&&chkB t
theorem rtext6_dc (t:Str) (F:Own):(t.length<=1000000000)->DC Tryz.prog 101 [.str t] (([]:Own)++F) fun d G=>d = .bool (textB t)/\G=[]++F:=by
 intro hA
 have ht:=hA
 refine DC.bodyS (n_:=17) (show Tryz.prog.funcs[101]? = some Tryz.f101 by kernel_rfl) rfl rfl (by rfl) ?_
 simp only [env0,List.cons_append,List.nil_append]
 have kw:=ksIs [0,2]
 have ow:=ownIs []
 repeat' (first
  | refine g_ ?_
  | ((with_reducible refine And.intro ?_ ?_);(exact sv))
  | (refine DW.cond (by rfl) ?_ ?_<;>(first | exact i0_ | (refine ic_ ?_;intro hb)))
  | ((with_reducible refine FVg_cases ?_ ?_)<;>(intro hb;rw [hb];revert hb;(first | exact i0_ | (refine i_ ?_;intro hb))))
  | refine r_ ?_
  | refine k_ ?_
  | (refine p_ (check_dc _ _) ?_;rintro d H1 ⟨i1,rfl,hi1,rfl⟩<;>refine s_ ?_)
  | refine o_ ?_
  | refine f_ ?_
  | with_reducible intro b)
 all_goals first
 | (have e:textB t=false:=by unfold textB;first | (rw [decide_eq_false (by omega)];rfl) | (rw [decide_eq_false (show ¬ t.length<=65535 by omega)];simp)
    rw [e];refine ⟨_,_,le.rfl_,⟨rfl,rfl⟩,?_⟩;(exact sub_);done)
 | (have e:textB t=chkB t:=by unfold textB;rw [decide_eq_true (by omega),decide_eq_true (by omega)];rfl
    rw [e,<-hi1];refine ⟨_,_,le.rfl_,⟨rfl,rfl⟩,?_⟩;(exact sub_);done)
def nameB (t:Str):Bool:=textB t && !hasC t 43 && !hasC t 35
theorem rname_dc (t:Str) (F:Own):(t.length<=1000000000)->DC Tryz.prog 54 [.str t] (([]:Own)++F) fun d G=>d = .bool (nameB t)/\G=[]++F:=by
 intro hA
 have ht:=hA
 refine DC.bodyS (n_:=15) (show Tryz.prog.funcs[54]? = some Tryz.f54 by kernel_rfl) rfl rfl (by rfl) ?_
 simp only [env0,List.cons_append,List.nil_append]
 have kw:=ksIs [0,2]
 have ow:=ownIs []
 repeat' (first
  | refine g_ ?_
  | ((with_reducible refine And.intro ?_ ?_);(exact sv))
  | (refine DW.cond (by rfl) ?_ ?_<;>(first | exact i0_ | (refine ic_ ?_;intro hb)))
  | ((with_reducible refine FVg_cases ?_ ?_)<;>(intro hb;rw [hb];revert hb;(first | exact i0_ | (refine i_ ?_;intro hb))))
  | refine r_ ?_
  | refine k_ ?_
  | (refine q_ (rtext6_dc _ _) ?_)
  | (refine q_ (hasc_dc _ _ _) ?_)
  | refine o_ ?_
  | refine f_ ?_
  | with_reducible intro b)
 all_goals
  refine ⟨_,_,le.of_eq ?_,⟨rfl,rfl⟩,SubP.refl⟩
  unfold nameB
  first | rfl | simp_all
end
section
section
variable {P:Program} {T:Type} {encV:T->V} {ok:T->Prop}
theorem cells_enc {k:Nat} (hcs:∀ x,ok x->∃ cs,encV x = .agg cs/\cs.length=k/\cs.all V.one=true) (l:List T) (hl:∀ x∈l,ok x):(cells (l.map encV)).length=l.length * k:=by
 rw [cells_len (sz:=k) _ (fun y hy=>by
  obtain ⟨x,hx,rfl⟩:=List.mem_map.1 hy
  obtain ⟨cs,e,h,_⟩:=hcs x (hl x hx)
  rw [e];exact h),List.length_map]
theorem cells_enc_at {k:Nat} (hcs:∀ x,ok x->∃ cs,encV x = .agg cs/\cs.length=k/\cs.all V.one=true) (l:List T) (hl:∀ x∈l,ok x) (i j:Nat) (hi:i<l.length) (hj:j<k):(cells (l.map encV)).getD (i * k+j) .any=(encV l[i]).cell j:=by
 rw [cells_at (sz:=k) _ i j (fun y hy=>by
  obtain ⟨x,hx,rfl⟩:=List.mem_map.1 hy
  obtain ⟨cs,e,h,_⟩:=hcs x (hl x hx)
  rw [e];exact h) (by simpa using hi) hj]
 congr 1
 simp [List.getD_eq_getElem?_getD,hi]
theorem DC.sortF {ρ : Go.Shelf.Ren} {k g:Nat} {cf:T->T->Int} (L:SlLaysF0.n6 P ρ) (aE:∀ w,(isAgg (ρ.t 24)).run P w = .ok true w) (zE:∀ w,(Go.sizeOf (ρ.t 24)).run P w = .ok k w) (eg:∀ args w,(callFunc g args).run P w = .ok (.enter g args) w)
  (hk0:0<k) (hcs:∀ x,ok x->∃ cs,encV x = .agg cs/\cs.length=k/\cs.all V.one=true) (hO:Go.Sort.SWO (fun x y:T=>decide (cf x y<0))) (he:enterB P (ρ.f 6)=true)
  (hcmp:∀ x y:T,ok x->ok y->DC P g [encV x,encV y] [] fun d G=>d = .int .i64 (cf x y))
  (l:List T) (v:Value) (n:Nat) (F:Own) (hn:n=l.length/\l.length<4611686018427387904/\∀ x∈l,ok x) :
  DC P (ρ.f 6) [.ar v n, .fn (.func g) [] []] ([.arr k v (cells (l.map encV))]++F) fun d G=>d = .tup []/\∃ l':List T,l'.Perm l/\l'.Pairwise (fun x y=>¬ cf y x<0)/\G=[.arr k v (cells (l'.map encV))]++F:=by
 obtain ⟨rfl,hlen,hok⟩:=hn
 refine ⟨he,fun xs w hs hsz hr=>?_⟩
 have h0:=hr 0 (by simp)
 have h1:=hr 1 (by simp)
 obtain ⟨x0,x1,rfl⟩:=two_of hsz
 clear hr hsz
 have hcl:=cells_enc hcs l hok
 change R _ w x0 (.ar v l.length) at h0
 change R _ w x1 (.fn (.func g) [] []) at h1
 cases h1 with
 | fn f ys zs cs ds hn h hm h' =>
 have hy:=zero_of (show ys.size=0 from hn);subst hy
 have hz:=zero_of (show zs.size=0 from hm);subst hz
 generalize hN:l.length=N at h0
 cases h0 with
 | ar a _ cap hc ha =>
 subst hN
 by_cases hl0:l=[]
 · subst hl0
   refine (AnyF.slices_SortFunc_none L a cap _ w).mono ?_
   rintro e w' ⟨rfl,rfl⟩
   exact ⟨_, .tup [],_,rfl,hs, .refl _ _, .tup _ _ rfl (fun k hk=>absurd hk (by simp)),rfl,[],List.Perm.refl _,List.Pairwise.nil,rfl⟩
 · have hpos:0<l.length:=List.length_pos_iff.2 hl0
   have hlk:0<l.length * k:=Nat.mul_pos hpos hk0
   obtain ⟨hcz,p,rfl⟩:=arr_cap (L1:=[]) hs (by rw [hcl];exact hlk)
   obtain ⟨s0,hnc,hln,xs,Ty,fr,g1,g2,g3,g4,g5,g6⟩:=arr_of (L1:=[]) hs hcz
   obtain ⟨pb,po,ps⟩:=p
   simp only at s0 g1 g2 g3 g4 g5
   subst s0
   have hkc:l.length * k<=cap * k:=Nat.mul_le_mul_right _ hc
   have hrel:∀ i (hi:i<l.length) j,j<k->R (stable w (.arr k (.slice (some ⟨pb,po,none⟩) l.length cap) (cells (l.map encV))::F)) w (xs.getD (po+(i * k+j)) undef) ((encV l[i]).cell j):=by
    intro i hi j hj
    have hb:i * k+j<l.length * k:=by
     have:=Nat.mul_le_mul_right k (show i+1<=l.length from hi)
     rw [Nat.add_mul,Nat.one_mul] at this;omega
    have:=g4 (i * k+j) (by rw [hcl];exact hb)
    rwa [cells_enc_at hcs l hok i j hi hj] at this
   let E:=Elm (stable w (.arr k (.slice (some ⟨pb,po,none⟩) l.length cap) (cells (l.map encV))::F)) w k encV ok
   let el:(i:Nat)->i<l.length->E:=fun i hi =>
    { t:=l[i],vs:=(List.range k).map fun j=>xs.getD (po+(i * k+j)) undef,len:=by simp
      one:=by
       intro u hu
       obtain ⟨j,hj,rfl⟩:=List.mem_map.1 hu
       have hj':=List.mem_range.1 hj
       obtain ⟨cs,e,h3,h4⟩:=hcs _ (hok _ (List.getElem_mem hi))
       have:=hrel i hi j hj'
       rw [e] at this
       have h5:V.one (cs.getD j .any)=true:=by
        rw [List.getD_eq_getElem?_getD,List.getElem?_eq_getElem (by omega)]
        exact List.all_eq_true.1 h4 _ (List.getElem_mem _)
       exact one_all (vs:=[xs.getD (po+(i * k+j)) undef]) (ds:=[cs.getD j .any]) rfl (fun q hq=>by
        obtain rfl:q=0:=by simpa using hq
        exact this) (by simp only [List.all_cons,List.all_nil,h5,Bool.and_true]) _ (List.mem_singleton.2 rfl)
      rel:=fun j hj=>by
       have:=hrel i hi j hj
       rw [List.getD_eq_getElem?_getD]
       simpa [hj] using this
      good:=hok _ (List.getElem_mem hi) }
   haveI:Inhabited E:=⟨el 0 hpos⟩
   let d:Array E:=Array.ofFn (n:=l.length) fun i=>el i.1 i.2
   have hds:d.size=l.length:=by simp [d]
   have hdt:d.toList.map Elm.t=l:=by
    apply List.ext_getElem
    · simp [d]
    · intro i h1 h2
      simp [d,el]
   have hdg:∀ i,i<l.length->∀ j,j<k->((d[i]!).vs)[j]! = xs.getD (po+(i * k+j)) undef:=by
    intro i hi j hj
    rw [getElem!_pos d i (by rw [hds];exact hi)]
    simp [d,el,hj]
   have hH:Go.Sort.HoldsK Elm.vs k w pb po d:=by
    intro t ht
    rw [Go.Sort.size_flatK,hds] at ht
    have hq:t / k<l.length:=(Nat.div_lt_iff_lt_mul hk0).2 ht
    have hm:t%k<k:=Nat.mod_lt _ hk0
    rw [Go.Sort.get_flatK _ _ _ _ (by rw [hds];exact ht),hdg _ hq _ hm,Nat.mul_comm,Nat.div_add_mod]
    exact g5 (po+t) (by omega) (by omega)
   have hpb:pb<w.heap.size:=by
    rcases Nat.lt_or_ge pb w.heap.size with h | h
    · exact h
    · rw [Array.getElem?_eq_none h] at g1;cases g1
   have hsim:∀ (m:Nat) (os:Array Obj) (dk:Array E),dk.size=d.size ->
     Sim (sortWorldK Elm.vs k w pb po m dk os) (.arr k (.slice (some ⟨pb,po,none⟩) l.length cap) (cells (dk.toList.map fun x=>encV x.t))::F) /\
     Ext w (.arr k (.slice (some ⟨pb,po,none⟩) l.length cap) (cells (l.map encV))::F) (sortWorldK Elm.vs k w pb po m dk os) (.arr k (.slice (some ⟨pb,po,none⟩) l.length cap) (cells (dk.toList.map fun x=>encV x.t))::F):=by
    intro m os dk hdk
    rw [hds] at hdk
    have hheap:(sortWorldK Elm.vs k w pb po m dk os).heap=w.heap.modify pb (Go.Sort.onCells (Go.Sort.putCells id po (Go.Sort.flatK Elm.vs k dk)))++os:=rfl
    have hmz:(w.heap.modify pb (Go.Sort.onCells (Go.Sort.putCells id po (Go.Sort.flatK Elm.vs k dk)))).size=w.heap.size:=Array.size_modify
    have hblk:(sortWorldK Elm.vs k w pb po m dk os).heap[pb]? = some (.cells (Go.Sort.putCells id po (Go.Sort.flatK Elm.vs k dk) xs) Ty fr):=by
     rw [hheap,Array.getElem?_append_left (by rw [hmz];exact hpb),Array.getElem?_modify,if_pos rfl,g1]
     rfl
    have hoth:∀ b,b<w.heap.size->b≠pb->(sortWorldK Elm.vs k w pb po m dk os).heap[b]? = w.heap[b]?:=by
     intro b hb hne
     rw [hheap,Array.getElem?_append_left (by rw [hmz];exact hb),Array.getElem?_modify,if_neg (Ne.symm hne)]
    have hput:∀ j,(Go.Sort.putCells id po (Go.Sort.flatK Elm.vs k dk) xs)[j]? = if po<=j/\j<po+l.length * k then (xs[j]?).map (fun _=>(Go.Sort.flatK Elm.vs k dk)[j - po]!) else xs[j]?:=by
     intro j
     unfold Go.Sort.putCells
     rw [Array.getElem?_mapIdx,Go.Sort.size_flatK,hdk]
     by_cases hc':po<=j/\j<po+l.length * k
     · simp only [if_pos hc',id]
     · simp only [if_neg hc']
       cases xs[j]? <;> rfl
    have hpsz:(Go.Sort.putCells id po (Go.Sort.flatK Elm.vs k dk) xs).size=xs.size:=by simp [Go.Sort.putCells]
    have hokd:∀ x∈dk.toList.map Elm.t,ok x:=by
     intro x hx
     obtain ⟨y,_,rfl⟩:=List.mem_map.1 hx
     exact y.good
    have hmm:(dk.toList.map fun x=>encV x.t)=(dk.toList.map Elm.t).map encV:=by rw [List.map_map];rfl
    have hcl':(cells (dk.toList.map fun x=>encV x.t)).length=l.length * k:=by
     rw [hmm,cells_enc hcs _ hokd];simp [hdk]
    refine Sim.swap (w':=sortWorldK Elm.vs k w pb po m dk os) (L1:=[]) hs (e1:=.arr k (.slice (some ⟨pb,po,none⟩) l.length cap) (cells (dk.toList.map fun x=>encV x.t))) rfl rfl rfl (by rw [hheap,Array.size_append,hmz];omega)
     (fun b hb hn=>hoth b hb fun e=>hn ⟨e,hcz⟩) (fun q hq hn=>?_) (fun b h=>.inl h) (fun q h=>.inl h) (fun hst=>?_) (Nat.le_add_right _ _)
    · have hn':¬ (q.block=pb/\po<=q.off/\q.off<po+cap * k):=hn
      obtain ⟨u,hu⟩:=Option.isSome_iff_exists.1 hq
      have hqb:=World.block_lt_of_cell? w q hu
      by_cases hqp:q.block=pb
      · unfold World.cell?
        rw [hqp,hblk,g1]
        simp only
        by_cases hsp:q.spot.isSome=true
        · rw [if_pos hsp,if_pos hsp]
        · rw [if_neg hsp,if_neg hsp,hput,if_neg (by omega)]
      · unfold World.cell?
        rw [hoth _ hqb hqp]
    · refine ⟨hc,hcl',fun _=>⟨rfl,_,Ty,fr,hblk,g2,by rw [hpsz];exact g3,fun t ht=>?_⟩⟩
      rw [hcl'] at ht
      have hq:t / k<l.length:=(Nat.div_lt_iff_lt_mul hk0).2 ht
      have hm:t%k<k:=Nat.mod_lt _ hk0
      have hxt:po+t<xs.size:=by omega
      have e1:(Go.Sort.putCells id po (Go.Sort.flatK Elm.vs k dk) xs).getD (po+t) undef=((dk[t / k]!).vs)[t%k]!:=by
       rw [Array.getD_eq_getD_getElem?,hput,if_pos (by omega),Array.getElem?_eq_getElem hxt]
       simp only [Option.map_some,Option.getD_some,Nat.add_sub_cancel_left]
       exact Go.Sort.get_flatK _ _ _ _ (by rw [hdk];exact ht)
      have e2:(cells (dk.toList.map fun x=>encV x.t)).getD t .any=(encV (dk[t / k]!).t).cell (t%k):=by
       rw [hmm]
       have:=cells_enc_at hcs (dk.toList.map Elm.t) hokd (t / k) (t%k) (by simp [hdk];exact hq) hm
       rw [Nat.mul_comm,Nat.div_add_mod] at this
       rw [this,getElem!_pos dk (t / k) (by rw [hdk];exact hq)]
       simp
      simp only
      rw [e1,e2]
      have:=((dk[t / k]!).rel (t%k) hm).mono hst
      have hl5:=(dk[t / k]!).len
      rwa [List.getD_eq_getElem?_getD,List.getElem?_eq_getElem (by omega),Option.getD_some,<-getElem!_pos] at this
   have hcmp':CmpLays P g #[] (fun x:E=>x.vs) k (fun x y:E=>cf x.t y.t) pb po d.size w:=by
    intro m os dk hdk x y
    obtain ⟨hs',hx'⟩:=hsim m os dk hdk
    obtain ⟨cx,ex,lx,ox⟩:=hcs x.t x.good
    obtain ⟨cy,ey,ly,oy⟩:=hcs y.t y.good
    have hrx:∀ (z:E) cz,encV z.t = .agg cz->cz.length=k->R (stable (sortWorldK Elm.vs k w pb po m dk os) []) (sortWorldK Elm.vs k w pb po m dk os) (.agg z.vs.toArray) (encV z.t):=by
     intro z cz ez lz
     rw [ez]
     refine .agg _ _ (by rw [lz];simpa using z.len) fun j hj=>?_
     have:=(hx'.rel (z.rel j (by omega))).mono (S':=stable (sortWorldK Elm.vs k w pb po m dk os) []) (w':=sortWorldK Elm.vs k w pb po m dk os) (fun a ha=>⟨ha.drop (by simp),rfl⟩)
     rw [ez] at this
     simpa [Array.getD_eq_getD_getElem?,List.getD_eq_getElem?_getD,V.cell] using this
    have:=(hcmp x.t y.t x.good y.good).2 #[.agg x.vs.toArray, .agg y.vs.toArray] (sortWorldK Elm.vs k w pb po m dk os) (sim_nil _) rfl (by
     intro q hq
     match q,hq with
     | 0,_=>exact hrx x cx ex lx
     | 1,_=>exact hrx y cy ey ly)
    refine this.mono ?_
    rintro e w' ⟨u,dd,H',rfl,_,hE,hR,rfl⟩
    cases hR
    exact ⟨rfl,grown_of hE⟩
   have hswo:Go.Sort.SWO (ltOf fun x y:E=>cf x.t y.t):=⟨fun x=>hO.irrefl x.t,fun x y z=>hO.trans x.t y.t z.t,fun x y z=>hO.ntrans x.t y.t z.t⟩
   have key:=AnyQ.slices_SortFunc (α:=E) L k aE zE (fun x=>x.vs) (fun x=>x.len) (fun x=>x.one) (fun x y=>cf x.t y.t) hswo g #[] pb po cap d w eg hcmp' hH hpb (by rw [hds];exact hlen)
   rw [hds] at key
   refine key.mono ?_
   rintro e w' ⟨rfl,d',m,os,⟨hp1,_,hp3⟩,hsrt,rfl⟩
   obtain ⟨hs',hx'⟩:=hsim m os d' (by rw [hds] at *;exact hp1)
   refine ⟨_, .tup [],_,rfl,hs',hx', .tup _ _ rfl (fun k hk=>absurd hk (by simp)),rfl,d'.toList.map Elm.t,?_,?_,?_⟩
   · have e1:d'.extract 0 l.length=d':=by rw [<-hds,<-hp1];simp
     have e2:d.extract 0 l.length=d:=by rw [<-hds];simp
     rw [e1,e2] at hp3
     have:=hp3.map Elm.t
     rwa [hdt] at this
   · rw [List.pairwise_map,List.pairwise_iff_getElem]
     intro i j hi hj hij
     have hj':j<d'.size:=by simpa using hj
     have h9:=hsrt i j (Nat.zero_le _) hij (by rw [<-hds,<-hp1];exact hj')
     rw [getElem!_pos d' j hj',getElem!_pos d' i (by omega)] at h9
     simpa [ltOf] using h9
   · rw [List.map_map];rfl
end
end
end Go.Proofs.YtifdpbghkccaoaaGreatDoor
