/- Messages, flights, sessions: what a session's functions do to it, plain; and as parts of what is owned. No statement of the program. -/
import Derived.Test.YtgekknefphagbaaGreatDoorFxx
import Derived.Test.YtgekknefphagbaaGreatDoorCzx
import Derived.Test.YtgekknefphagbaaGreatDoorEqx
import Derived.Shelf.SlSortCmp.WholeK
import Derived.Shelf.SlSortCmp.NoneTotal
namespace Go.Proofs.YtgekknefphagbaaGreatDoor
open Go.RowKit
set_option linter.unusedSimpArgs false
set_option linter.unusedVariables false
set_option linter.unusedSectionVars false
set_option maxRecDepth 100000
section
structure Mg where
 topic:YS
 pay:YS
 qos:Int
 retain:Bool
 deriving Inhabited
structure MgN (m:Mg):Prop where
 topic:m.topic.length<=100000
 pay:m.pay.length<=100000
def encM (m:Mg):V:=.agg [.str m.topic, .sl (m.pay.map u8), .int .i64 m.qos, .bool m.retain]
structure Fl where
 m:Mg
 id:Int
 sent:Int
 rcv:Bool
 deriving Inhabited
def encF (f:Fl):V:=.agg [.str f.m.topic, .sl (f.m.pay.map u8), .int .i64 f.m.qos, .bool f.m.retain, .int .i64 f.id, .int .i64 f.sent, .bool f.rcv]
def pubM (m:Mg) (id:Int) (dup:Bool):Pk:=⟨3,dup,m.retain,m.qos,id,m.topic,m.pay,0,[],false,0,false,[],[],0,false,false,false,[],[],false,0,[],[]⟩
def ackP (kind id:Int):Pk:=⟨kind,false,false,0,id,[],[],0,[],false,0,false,[],[],0,false,false,false,[],[],false,0,[],[]⟩
def zbf (z:Int):Int:=min (max z (-1099511627776)) 1099511627776
theorem zdJ (z:Int) : -1099511627776<=zbf z/\zbf z<=1099511627776:=by unfold zbf;omega
def cand (t:Int) (k:Nat):Int:=(t+k)%65535+1
theorem zee (t:Int) (k:Nat):1<=cand t k/\cand t k<=65535:=by unfold cand;omega
theorem zqI {t:Int} (h:0<=t):t.tmod 65535+1=cand t 0:=by unfold cand;rw [Int.tmod_eq_emod_of_nonneg h];simp
theorem cand_s (t:Int) (k:Nat):(cand t k).tmod 65535+1=cand t (k+1):=by
 rw [Int.tmod_eq_emod_of_nonneg (by have:=zee t k;omega)];unfold cand;omega
theorem zq3 {t:Int} {i j:Nat} (hi:i<65535) (hj:j<65535) (h:cand t i=cand t j):i=j:=by unfold cand at h;omega
theorem zmt {α:Type} [DecidableEq α]:∀ {l l':List α},l.Nodup->(∀ x∈l,x∈l')->l.length<=l'.length
 | [],_,_,_=>Nat.zero_le _
 | x::l,l',hn,hs=>by
  rw [List.nodup_cons] at hn
  obtain ⟨a,b,rfl⟩:=List.append_of_mem (hs x List.mem_cons_self)
  have:=zmt (l':=a++b) hn.2 fun y hy=>by
   have h1:=hs y (List.mem_cons_of_mem _ hy)
   rcases List.mem_append.1 h1 with h1 | h1
   · exact List.mem_append_left _ h1
   · rcases List.mem_cons.1 h1 with rfl | h1
     · exact absurd hy hn.1
     · exact List.mem_append_right _ h1
  simp only [List.length_append,List.length_cons] at this ⊢
  omega
theorem ziO {us:List Int} {t:Int} {k:Nat} (hk:k<65535) (h:∀ j,j<=k->cand t j∈us):k+1<=us.length:=by
 have:=zmt (l:=(List.range (k+1)).map (cand t)) (l':=us) (by
  rw [List.Nodup,List.pairwise_map]
  refine List.Pairwise.imp_of_mem ?_ List.nodup_range
  intro a b ha hb hne e
  rw [List.mem_range] at ha hb
  exact hne (zq3 (by omega) (by omega) e)) fun x hx=>by
  obtain ⟨j,hj,rfl⟩:=List.mem_map.1 hx
  exact h j (by rw [List.mem_range] at hj;omega)
 simpa using this
def zds (us:List Int) (t:Int):Nat->Nat->Int
 | 0,k=>cand t k
 | n+1,k=>if cand t k∈us then zds us t n (k+1) else cand t k
theorem zl7 {us:List Int} {t:Int} {k:Nat} (h:cand t k ∉ us):∀ n,zds us t n k=cand t k
 | 0=>rfl
 | n+1=>by unfold zds;rw [if_neg h]
theorem zmy {us:List Int} {t:Int} {k n:Nat} (h:cand t k∈us) (hn:0<n):zds us t n k=zds us t (n - 1) (k+1):=by
 obtain ⟨m,rfl⟩:∃ m,n=m+1:=⟨n - 1,by omega⟩
 conv=>lhs;unfold zds
 rw [if_pos h];rfl
def zbx (us:List Int) (t:Int):Int:=zds us t us.length 0
theorem zkt {us:List Int} {t:Int} (hl:us.length<65535):∀ n k,k+n=us.length->(∀ j,j<k->cand t j∈us)->zds us t n k ∉ us/\1<=zds us t n k/\zds us t n k<=65535
 | 0,k,hk,h=>⟨fun hm=>by
  have:=ziO (us:=us) (t:=t) (k:=k) (by omega) fun j hj=>by
   rcases Nat.lt_or_eq_of_le hj with h1 | rfl
   · exact h j h1
   · exact hm
  omega,zee t k⟩
 | n+1,k,hk,h=>by
  unfold zds
  split
  · rename_i hm
    exact zkt hl n (k+1) (by omega) fun j hj=>by
     rcases Nat.lt_or_eq_of_le (Nat.le_of_lt_succ hj) with h1 | rfl
     · exact h j h1
     · exact hm
  · rename_i hm;exact ⟨hm,zee t k⟩
theorem zkQ {us:List Int} (t:Int) (hl:us.length<65535):zbx us t ∉ us/\1<=zbx us t/\zbx us t<=65535:=zkt hl _ 0 (Nat.zero_add _) fun j hj=>absurd hj (Nat.not_lt_zero _)
def usI (us:List Int):List (Int×Bool):=us.map fun i=>(i,true)
theorem zjU (us:List Int):(usI us).length=us.length:=List.length_map ..
theorem zhH (us:List Int) (i:Int):(lookA i (usI us)).getD false=decide (i∈us):=by
 induction us with
 | nil=>rfl
 | cons a us ih =>
  show (if i=a then some true else lookA i (usI us)).getD false=_
  by_cases h:i=a
  · rw [if_pos h];simp [h]
  · rw [if_neg h,ih];simp [h]
theorem zff (us:List Int) (i:Int):(lookA i (usI us)).isSome=decide (i∈us):=by
 induction us with
 | nil=>rfl
 | cons a us ih =>
  show (if i=a then some true else lookA i (usI us)).isSome=_
  by_cases h:i=a
  · rw [if_pos h];simp [h]
  · rw [if_neg h,ih];simp [h]
theorem zjn (us:List Int) (i:Int):updA i true (usI us)=usI (if i∈us then us else us++[i]):=by
 induction us with
 | nil=>rfl
 | cons a us ih =>
  show (if i=a then (a,true)::usI us else (a,true)::updA i true (usI us))=_
  by_cases h:i=a
  · rw [if_pos h,if_pos (by rw [h];exact List.mem_cons_self)];rfl
  · rw [if_neg h,ih]
    by_cases h2:i∈us
    · rw [if_pos h2,if_pos (List.mem_cons_of_mem _ h2)];rfl
    · rw [if_neg h2,if_neg (fun e=>by rcases List.mem_cons.1 e with e | e;exact h e;exact h2 e)];rfl
theorem zh9 (us:List Int) (i:Int):za0 i (usI us)=usI (us.erase i):=by
 induction us with
 | nil=>rfl
 | cons a us ih =>
  show (if i=a then usI us else (a,true)::za0 i (usI us))=_
  by_cases h:i=a
  · rw [if_pos h,h,List.erase_cons_head]
  · rw [if_neg h,ih,List.erase_cons_tail (by simpa using Ne.symm h)];rfl
structure SA where
 name:YS
 subs:List (YS×Int)
 taken:Int
 fly:List Fl
 q:List Mg
 got:List Int
 deriving Inhabited
def idsF (l:List Fl):List Int:=l.map (·.id)
@[simp] theorem zfY (l:List Fl):(idsF l).length=l.length:=List.length_map ..
structure FlOK (f:Fl):Prop where
 id:1<=f.id/\f.id<=65535
 sent : -1099511627776<=f.sent/\f.sent<=1099511627776
 m:MgN f.m
structure SAOK (a:SA):Prop where
 name:a.name.length<=100000
 fly:a.fly.length<=4
 ids:(idsF a.fly).Nodup
 flo:∀ f∈a.fly,FlOK f
 q:a.q.length<=8
 qm:∀ m∈a.q,MgN m
 taken:0<=a.taken/\a.taken<=65535
 subs:(a.subs.map (·.1)).Nodup
 got:a.got.Nodup
def zgW (a:SA):Int:=zbx (idsF a.fly) a.taken
def zfA (now:Int) (m:Mg) (a:SA):SA:={ a with taken:=zgW a,fly:=a.fly++[⟨m,zgW a,zbf now,false⟩] }
def zb0 (now:Int):List Mg->SA->SA
 | [],a=>{ a with q:=[] }
 | m::q,a=>if a.fly.length<4 then zb0 now q (zfA now m a) else { a with q:=m::q }
def zb9 (now:Int):List Mg->SA->List Pk
 | [],a=>[]
 | m::q,a=>if a.fly.length<4 then pubM m (zgW a) false::zb9 now q (zfA now m a) else []
def offA (i:Nat) (a:SA):SA:={ a with fly:=a.fly.eraseIdx i }
def zoe (i:Nat) (now:Int) (a:SA):SA:=zb0 now a.q (offA i a)
def agF (now ago:Int) (f:Fl):Fl:=if zbf now - f.sent<ago then f else { f with sent:=zbf now }
def agP (now ago:Int) (f:Fl):List Pk:=if zbf now - f.sent<ago then [] else if f.rcv=true then [ackP 6 f.id] else [pubM f.m f.id true]
def zeO (now ago:Int) (a:SA):SA:={ a with fly:=a.fly.map (agF now ago) }
def zcJ (now ago:Int) (l:List Fl):List Pk:=l.flatMap (agP now ago)
def zb4 (now:Int) (a:SA):SA:=zb0 now a.q (zeO now (-4398046511104) a)
def zam (now:Int) (a:SA):List Pk:=zcJ now (-4398046511104) a.fly++zb9 now a.q (zeO now (-4398046511104) a)
def subA (fl:YS) (q:Int) (a:SA):SA:={ a with subs:=updA fl q a.subs }
theorem SAOK.us {a:SA} (h:SAOK a):(idsF a.fly).length<65535:=by rw [zfY];have:=h.fly;omega
section
variable {a:SA} (h:SAOK a)
include h
theorem SAOK.rise {now:Int} {m:Mg} (hm:MgN m) (hl:a.fly.length<4):SAOK (zfA now m a):=by
 have hk:=zkQ a.taken h.us
 refine ⟨h.name,?_,?_,?_,h.q,h.qm,⟨?_,hk.2.2⟩,h.subs,h.got⟩
 · simp only [zfA,List.length_append,List.length_cons,List.length_nil];omega
 · simp only [zfA,idsF,List.map_append,List.map_cons,List.map_nil]
   rw [List.nodup_append]
   refine ⟨h.ids,by simp,fun x hx y hy e=>?_⟩
   simp only [List.mem_cons,List.not_mem_nil,or_false] at hy
   subst hy;subst e;exact hk.1 hx
 · intro f hf
   simp only [zfA,List.mem_append,List.mem_cons,List.not_mem_nil,or_false] at hf
   rcases hf with hf | rfl
   · exact h.flo f hf
   · exact ⟨hk.2,zdJ _,hm⟩
 · show 0<=zgW a
   have:=hk.2.1
   unfold zgW;omega
omit h in
theorem SAOK.drain (now:Int):∀ {q:List Mg} {a:SA},SAOK a->q.length<=8->(∀ m∈q,MgN m)->SAOK (zb0 now q a)
 | [],a,h,_,_=>⟨h.name,h.fly,h.ids,h.flo,Nat.zero_le _,(fun _ h=>nomatch h),h.taken,h.subs,h.got⟩
 | m::q,a,h,hl,hm=>by
  unfold zb0
  split
  · rename_i hf
    exact SAOK.drain now (h.rise (hm m List.mem_cons_self) hf) (by simp only [List.length_cons] at hl;omega) fun x hx=>hm x (List.mem_cons_of_mem _ hx)
  · exact ⟨h.name,h.fly,h.ids,h.flo,hl,hm,h.taken,h.subs,h.got⟩
theorem SAOK.off (i:Nat):SAOK (offA i a):=by
 refine ⟨h.name,Nat.le_trans (List.length_eraseIdx_le ..) h.fly,?_,fun f hf=>h.flo f (List.mem_of_mem_eraseIdx hf),h.q,h.qm,h.taken,h.subs,h.got⟩
 exact h.ids.sublist ((List.eraseIdx_sublist ..).map _)
theorem SAOK.done (i:Nat) (now:Int):SAOK (zoe i now a):=SAOK.drain now (h.off i) h.q h.qm
theorem SAOK.again (now ago:Int):SAOK (zeO now ago a):=by
 refine ⟨h.name,by simp only [zeO,List.length_map];exact h.fly,?_,fun f hf=>?_,h.q,h.qm,h.taken,h.subs,h.got⟩
 · have e:idsF (zeO now ago a).fly=idsF a.fly:=by
    simp only [zeO,idsF,List.map_map]
    refine List.map_congr_left fun f _=>?_
    simp only [Function.comp,agF];split<;>rfl
   rw [e];exact h.ids
 · obtain ⟨g,hg,rfl⟩:=List.mem_map.1 hf
   have:=h.flo g hg
   unfold agF
   split
   · exact this
   · exact ⟨this.id,zdJ _,this.m⟩
theorem SAOK.resume (now:Int):SAOK (zb4 now a):=SAOK.drain now (h.again now _) h.q h.qm
theorem SAOK.sub (fl:YS) (q:Int):SAOK (subA fl q a):=⟨h.name,h.fly,h.ids,h.flo,h.q,h.qm,h.taken,zdt h.subs,h.got⟩
end
def newA (name:YS):SA:=⟨name,[],0,[],[],[]⟩
theorem zaz {name:YS} (h:name.length<=100000):SAOK (newA name):=⟨h,Nat.zero_le _,List.nodup_nil,(fun _ h=>nomatch h),Nat.zero_le _,(fun _ h=>nomatch h),⟨Int.le_refl 0,show (0:Int)<=65535 by decide⟩,List.nodup_nil,List.nodup_nil⟩
structure SAQ (a:SA):Prop where
 fly:∀ f∈a.fly,1<=f.m.qos
 q:∀ m∈a.q,1<=m.qos
theorem SAQ.rise {a:SA} (h:SAQ a) {now:Int} {m:Mg} (hm:1<=m.qos):SAQ (zfA now m a):=⟨fun f hf=>by
 simp only [zfA,List.mem_append,List.mem_cons,List.not_mem_nil,or_false] at hf
 rcases hf with hf | rfl
 · exact h.fly f hf
 · exact hm,h.q⟩
theorem SAQ.drain (now:Int):∀ {q:List Mg} {a:SA},SAQ a->(∀ m∈q,1<=m.qos)->SAQ (zb0 now q a)
 | [],a,h,_=>⟨h.fly,fun _ h=>nomatch h⟩
 | m::q,a,h,hm=>by
  unfold zb0
  split
  · exact SAQ.drain now (h.rise (hm m List.mem_cons_self)) fun x hx=>hm x (List.mem_cons_of_mem _ hx)
  · exact ⟨h.fly,hm⟩
section
variable {a:SA} (h:SAQ a)
include h
theorem SAQ.off (i:Nat):SAQ (offA i a):=⟨fun f hf=>h.fly f (List.mem_of_mem_eraseIdx hf),h.q⟩
theorem SAQ.done (i:Nat) (now:Int):SAQ (zoe i now a):=SAQ.drain now (h.off i) h.q
theorem SAQ.again (now ago:Int):SAQ (zeO now ago a):=⟨fun f hf=>by
 obtain ⟨g,hg,rfl⟩:=List.mem_map.1 hf
 have:=h.fly g hg
 unfold agF
 split
 · exact this
 · exact this,h.q⟩
theorem SAQ.resume (now:Int):SAQ (zb4 now a):=SAQ.drain now (h.again now _) h.q
theorem SAQ.sub (fl:YS) (q:Int):SAQ (subA fl q a):=⟨h.fly,h.q⟩
end
theorem zdD (name:YS):SAQ (newA name):=⟨(fun _ h=>nomatch h),fun _ h=>nomatch h⟩
structure SN where
 b:Nat
 sm:Nat
 ib:Nat
 um:Nat
 qb:Nat
 gm:Nat
 fv:Value
 qv:Value
 lost:Int
 a:SA
 deriving Inhabited
def SN.cs (x:SN):List V:=[.str x.a.name, .raw (.map (some x.sm)), .raw (.pointer (some ⟨x.ib,0,none⟩)), .ar x.fv x.a.fly.length, .raw (.pointer (some ⟨x.qb,0,none⟩)), .raw (.map (some x.gm))]
abbrev ownI (ib um:Nat) (us:List Int) (t:Int):Own:=[.blk ib [.raw (.map (some um)), .int .i64 65535, .int .i64 t], .map um (entM (V.int .i64) V.bool (usI us))]
abbrev ownQ (qb:Nat) (qv:Value) (q:List Mg) (lost:Int):Own:=[.blk qb [.gs qv (q.map encM), .int .i64 8, .int .i64 lost], .tail 4 qv]
def SN.own (x:SN):Own:=.blk x.b x.cs :: .map x.sm (entM V.str (V.int .i64) x.a.subs) :: .arr 7 x.fv (cells (x.a.fly.map encF)) :: .map x.gm (entM (V.int .i64) V.bool (usI x.a.got))::(ownI x.ib x.um (idsF x.a.fly) x.a.taken++ownQ x.qb x.qv x.a.q x.lost)
end
section
section
variable {P:Program} {T:Type} {encV:T->V} {ok:T->Prop}
theorem zi9 {k:Nat} (hcs:∀ x,ok x->∃ cs,encV x = .agg cs/\cs.length=k/\cs.all V.one=true) (l:List T) (hl:∀ x∈l,ok x):(cells (l.map encV)).length=l.length * k:=by
 rw [zdZ (sz:=k) _ (fun y hy=>by
  obtain ⟨x,hx,rfl⟩:=List.mem_map.1 hy
  obtain ⟨cs,e,h,_⟩:=hcs x (hl x hx)
  rw [e];exact h),List.length_map]
theorem zf6 {k:Nat} (hcs:∀ x,ok x->∃ cs,encV x = .agg cs/\cs.length=k/\cs.all V.one=true) (l:List T) (hl:∀ x∈l,ok x) (i j:Nat) (hi:i<l.length) (hj:j<k):(cells (l.map encV)).getD (i * k+j) .any=(encV l[i]).cell j:=by
 rw [zfO (sz:=k) _ i j (fun y hy=>by
  obtain ⟨x,hx,rfl⟩:=List.mem_map.1 hy
  obtain ⟨cs,e,h,_⟩:=hcs x (hl x hx)
  rw [e];exact h) (by simpa using hi) hj]
 congr 1
 simp [List.getD_eq_getElem?_getD,hi]
theorem DC.sortF {ρ : Go.Shelf.Ren} {k g:Nat} {cf:T->T->Int} (L:SlLaysF0.n6 P ρ) (aE:∀ w,(isAgg (ρ.t 24)).run P w = .ok true w) (zE:∀ w,(Go.sizeOf (ρ.t 24)).run P w = .ok k w) (eg:∀ args w,(callFunc g args).run P w = .ok (.enter g args) w)
  (hk0:0<k) (hcs:∀ x,ok x->∃ cs,encV x = .agg cs/\cs.length=k/\cs.all V.one=true) (hO:Go.Sort.SWO (fun x y:T=>decide (cf x y<0))) (he:zdL P (ρ.f 6)=true)
  (hcmp:∀ x y:T,ok x->ok y->DC P g [encV x,encV y] [] fun d G=>d = .int .i64 (cf x y))
  (l:List T) (v:Value) (n:Nat) (F:Own) (hn:n=l.length/\l.length<4611686018427387904/\∀ x∈l,ok x) :
  DC P (ρ.f 6) [.ar v n, .fn (.func g) [] []] ([.arr k v (cells (l.map encV))]++F) fun d G=>d = .tup []/\∃ l':List T,l'.Perm l/\l'.Pairwise (fun x y=>¬ cf y x<0)/\G=[.arr k v (cells (l'.map encV))]++F:=by
 obtain ⟨rfl,hlen,hok⟩:=hn
 refine ⟨he,fun xs w hs hsz hr=>?_⟩
 have h0:=hr 0 (by simp)
 have h1:=hr 1 (by simp)
 obtain ⟨x0,x1,rfl⟩:=zqJ hsz
 clear hr hsz
 have hcl:=zi9 hcs l hok
 change R _ w x0 (.ar v l.length) at h0
 change R _ w x1 (.fn (.func g) [] []) at h1
 cases h1 with
 | fn f ys zs cs ds hn h hm h' =>
 have hy:=znc (show ys.size=0 from hn);subst hy
 have hz:=znc (show zs.size=0 from hm);subst hz
 generalize hN:l.length=N at h0
 cases h0 with
 | ar a _ cap hc ha =>
 subst hN
 by_cases hl0:l=[]
 · subst hl0
   refine (AnyF.slices_SortFunc_none L a cap _ w).mono ?_
   rintro e w' ⟨rfl,rfl⟩
   exact ⟨_, .tup [],_,rfl,hs, .refl _ _, .tup _ _ rfl (fun k hk=>absurd hk (by simp)),rfl,[],List.Perm.refl _,List.Pairwise.nil,rfl⟩
 · have hpos:0<l.length:=List.length_pos_iff.2 hl0
   have hlk:0<l.length * k:=Nat.mul_pos hpos hk0
   obtain ⟨hcz,p,rfl⟩:=zgq (L1:=[]) hs (by rw [hcl];exact hlk)
   obtain ⟨s0,hnc,hln,xs,Ty,fr,g1,g2,g3,g4,g5,g6⟩:=zcU (L1:=[]) hs hcz
   obtain ⟨pb,po,ps⟩:=p
   simp only at s0 g1 g2 g3 g4 g5
   subst s0
   have hkc:l.length * k<=cap * k:=Nat.mul_le_mul_right _ hc
   have hrel:∀ i (hi:i<l.length) j,j<k->R (stable w (.arr k (.slice (some ⟨pb,po,none⟩) l.length cap) (cells (l.map encV))::F)) w (xs.getD (po+(i * k+j)) undef) ((encV l[i]).cell j):=by
    intro i hi j hj
    have hb:i * k+j<l.length * k:=by
     have:=Nat.mul_le_mul_right k (show i+1<=l.length from hi)
     rw [Nat.add_mul,Nat.one_mul] at this;omega
    have:=g4 (i * k+j) (by rw [hcl];exact hb)
    rwa [zf6 hcs l hok i j hi hj] at this
   let E:=Elm (stable w (.arr k (.slice (some ⟨pb,po,none⟩) l.length cap) (cells (l.map encV))::F)) w k encV ok
   let el:(i:Nat)->i<l.length->E:=fun i hi =>
    { t:=l[i],vs:=(List.range k).map fun j=>xs.getD (po+(i * k+j)) undef,len:=by simp
      one:=by
       intro u hu
       obtain ⟨j,hj,rfl⟩:=List.mem_map.1 hu
       have hj':=List.mem_range.1 hj
       obtain ⟨cs,e,h3,h4⟩:=hcs _ (hok _ (List.getElem_mem hi))
       have:=hrel i hi j hj'
       rw [e] at this
       have h5:V.one (cs.getD j .any)=true:=by
        rw [List.getD_eq_getElem?_getD,List.getElem?_eq_getElem (by omega)]
        exact List.all_eq_true.1 h4 _ (List.getElem_mem _)
       exact zm6 (vs:=[xs.getD (po+(i * k+j)) undef]) (ds:=[cs.getD j .any]) rfl (fun q hq=>by
        obtain rfl:q=0:=by simpa using hq
        exact this) (by simp only [List.all_cons,List.all_nil,h5,Bool.and_true]) _ (List.mem_singleton.2 rfl)
      rel:=fun j hj=>by
       have:=hrel i hi j hj
       rw [List.getD_eq_getElem?_getD]
       simpa [hj] using this
      good:=hok _ (List.getElem_mem hi) }
   haveI:Inhabited E:=⟨el 0 hpos⟩
   let d:Array E:=Array.ofFn (n:=l.length) fun i=>el i.1 i.2
   have hds:d.size=l.length:=by simp [d]
   have hdt:d.toList.map Elm.t=l:=by
    apply List.ext_getElem
    · simp [d]
    · intro i h1 h2
      simp [d,el]
   have hdg:∀ i,i<l.length->∀ j,j<k->((d[i]!).vs)[j]! = xs.getD (po+(i * k+j)) undef:=by
    intro i hi j hj
    rw [getElem!_pos d i (by rw [hds];exact hi)]
    simp [d,el,hj]
   have hH:Go.Sort.HoldsK Elm.vs k w pb po d:=by
    intro t ht
    rw [Go.Sort.size_flatK,hds] at ht
    have hq:t / k<l.length:=(Nat.div_lt_iff_lt_mul hk0).2 ht
    have hm:t%k<k:=Nat.mod_lt _ hk0
    rw [Go.Sort.get_flatK _ _ _ _ (by rw [hds];exact ht),hdg _ hq _ hm,Nat.mul_comm,Nat.div_add_mod]
    exact g5 (po+t) (by omega) (by omega)
   have hpb:pb<w.heap.size:=by
    rcases Nat.lt_or_ge pb w.heap.size with h | h
    · exact h
    · rw [Array.getElem?_eq_none h] at g1;cases g1
   have hsim:∀ (m:Nat) (os:Array Obj) (dk:Array E),dk.size=d.size ->
     Sim (sortWorldK Elm.vs k w pb po m dk os) (.arr k (.slice (some ⟨pb,po,none⟩) l.length cap) (cells (dk.toList.map fun x=>encV x.t))::F) /\
     Ext w (.arr k (.slice (some ⟨pb,po,none⟩) l.length cap) (cells (l.map encV))::F) (sortWorldK Elm.vs k w pb po m dk os) (.arr k (.slice (some ⟨pb,po,none⟩) l.length cap) (cells (dk.toList.map fun x=>encV x.t))::F):=by
    intro m os dk hdk
    rw [hds] at hdk
    have hheap:(sortWorldK Elm.vs k w pb po m dk os).heap=w.heap.modify pb (Go.Sort.onCells (Go.Sort.putCells id po (Go.Sort.flatK Elm.vs k dk)))++os:=rfl
    have hmz:(w.heap.modify pb (Go.Sort.onCells (Go.Sort.putCells id po (Go.Sort.flatK Elm.vs k dk)))).size=w.heap.size:=Array.size_modify
    have hblk:(sortWorldK Elm.vs k w pb po m dk os).heap[pb]? = some (.cells (Go.Sort.putCells id po (Go.Sort.flatK Elm.vs k dk) xs) Ty fr):=by
     rw [hheap,Array.getElem?_append_left (by rw [hmz];exact hpb),Array.getElem?_modify,if_pos rfl,g1]
     rfl
    have hoth:∀ b,b<w.heap.size->b≠pb->(sortWorldK Elm.vs k w pb po m dk os).heap[b]? = w.heap[b]?:=by
     intro b hb hne
     rw [hheap,Array.getElem?_append_left (by rw [hmz];exact hb),Array.getElem?_modify,if_neg (Ne.symm hne)]
    have hput:∀ j,(Go.Sort.putCells id po (Go.Sort.flatK Elm.vs k dk) xs)[j]? = if po<=j/\j<po+l.length * k then (xs[j]?).map (fun _=>(Go.Sort.flatK Elm.vs k dk)[j - po]!) else xs[j]?:=by
     intro j
     unfold Go.Sort.putCells
     rw [Array.getElem?_mapIdx,Go.Sort.size_flatK,hdk]
     by_cases hc':po<=j/\j<po+l.length * k
     · simp only [if_pos hc',id]
     · simp only [if_neg hc']
       cases xs[j]? <;> rfl
    have hpsz:(Go.Sort.putCells id po (Go.Sort.flatK Elm.vs k dk) xs).size=xs.size:=by simp [Go.Sort.putCells]
    have hokd:∀ x∈dk.toList.map Elm.t,ok x:=by
     intro x hx
     obtain ⟨y,_,rfl⟩:=List.mem_map.1 hx
     exact y.good
    have hmm:(dk.toList.map fun x=>encV x.t)=(dk.toList.map Elm.t).map encV:=by rw [List.map_map];rfl
    have hcl':(cells (dk.toList.map fun x=>encV x.t)).length=l.length * k:=by
     rw [hmm,zi9 hcs _ hokd];simp [hdk]
    refine Sim.swap (w':=sortWorldK Elm.vs k w pb po m dk os) (L1:=[]) hs (e1:=.arr k (.slice (some ⟨pb,po,none⟩) l.length cap) (cells (dk.toList.map fun x=>encV x.t))) rfl rfl rfl (by rw [hheap,Array.size_append,hmz];omega)
     (fun b hb hn=>hoth b hb fun e=>hn ⟨e,hcz⟩) (fun q hq hn=>?_) (fun b h=>.inl h) (fun q h=>.inl h) (fun hst=>?_) (Nat.le_add_right _ _)
    · have hn':¬ (q.block=pb/\po<=q.off/\q.off<po+cap * k):=hn
      obtain ⟨u,hu⟩:=Option.isSome_iff_exists.1 hq
      have hqb:=World.block_lt_of_cell? w q hu
      by_cases hqp:q.block=pb
      · unfold World.cell?
        rw [hqp,hblk,g1]
        simp only
        by_cases hsp:q.spot.isSome=true
        · rw [if_pos hsp,if_pos hsp]
        · rw [if_neg hsp,if_neg hsp,hput,if_neg (by omega)]
      · unfold World.cell?
        rw [hoth _ hqb hqp]
    · refine ⟨hc,hcl',fun _=>⟨rfl,_,Ty,fr,hblk,g2,by rw [hpsz];exact g3,fun t ht=>?_⟩⟩
      rw [hcl'] at ht
      have hq:t / k<l.length:=(Nat.div_lt_iff_lt_mul hk0).2 ht
      have hm:t%k<k:=Nat.mod_lt _ hk0
      have hxt:po+t<xs.size:=by omega
      have e1:(Go.Sort.putCells id po (Go.Sort.flatK Elm.vs k dk) xs).getD (po+t) undef=((dk[t / k]!).vs)[t%k]!:=by
       rw [Array.getD_eq_getD_getElem?,hput,if_pos (by omega),Array.getElem?_eq_getElem hxt]
       simp only [Option.map_some,Option.getD_some,Nat.add_sub_cancel_left]
       exact Go.Sort.get_flatK _ _ _ _ (by rw [hdk];exact ht)
      have e2:(cells (dk.toList.map fun x=>encV x.t)).getD t .any=(encV (dk[t / k]!).t).cell (t%k):=by
       rw [hmm]
       have:=zf6 hcs (dk.toList.map Elm.t) hokd (t / k) (t%k) (by simp [hdk];exact hq) hm
       rw [Nat.mul_comm,Nat.div_add_mod] at this
       rw [this,getElem!_pos dk (t / k) (by rw [hdk];exact hq)]
       simp
      simp only
      rw [e1,e2]
      have:=((dk[t / k]!).rel (t%k) hm).mono hst
      have hl5:=(dk[t / k]!).len
      rwa [List.getD_eq_getElem?_getD,List.getElem?_eq_getElem (by omega),Option.getD_some,<-getElem!_pos] at this
   have hcmp':CmpLays P g #[] (fun x:E=>x.vs) k (fun x y:E=>cf x.t y.t) pb po d.size w:=by
    intro m os dk hdk x y
    obtain ⟨hs',hx'⟩:=hsim m os dk hdk
    obtain ⟨cx,ex,lx,ox⟩:=hcs x.t x.good
    obtain ⟨cy,ey,ly,oy⟩:=hcs y.t y.good
    have hrx:∀ (z:E) cz,encV z.t = .agg cz->cz.length=k->R (stable (sortWorldK Elm.vs k w pb po m dk os) []) (sortWorldK Elm.vs k w pb po m dk os) (.agg z.vs.toArray) (encV z.t):=by
     intro z cz ez lz
     rw [ez]
     refine .agg _ _ (by rw [lz];simpa using z.len) fun j hj=>?_
     have:=(hx'.rel (z.rel j (by omega))).mono (S':=stable (sortWorldK Elm.vs k w pb po m dk os) []) (w':=sortWorldK Elm.vs k w pb po m dk os) (fun a ha=>⟨ha.drop (by simp),rfl⟩)
     rw [ez] at this
     simpa [Array.getD_eq_getD_getElem?,List.getD_eq_getElem?_getD,V.cell] using this
    have:=(hcmp x.t y.t x.good y.good).2 #[.agg x.vs.toArray, .agg y.vs.toArray] (sortWorldK Elm.vs k w pb po m dk os) (sim_nil _) rfl (by
     intro q hq
     match q,hq with
     | 0,_=>exact hrx x cx ex lx
     | 1,_=>exact hrx y cy ey ly)
    refine this.mono ?_
    rintro e w' ⟨u,dd,H',rfl,_,hE,hR,rfl⟩
    cases hR
    exact ⟨rfl,zqf hE⟩
   have hswo:Go.Sort.SWO (ltOf fun x y:E=>cf x.t y.t):=⟨fun x=>hO.irrefl x.t,fun x y z=>hO.trans x.t y.t z.t,fun x y z=>hO.ntrans x.t y.t z.t⟩
   have key:=AnyQ.slices_SortFunc (α:=E) L k aE zE (fun x=>x.vs) (fun x=>x.len) (fun x=>x.one) (fun x y=>cf x.t y.t) hswo g #[] pb po cap d w eg hcmp' hH hpb (by rw [hds];exact hlen)
   rw [hds] at key
   refine key.mono ?_
   rintro e w' ⟨rfl,d',m,os,⟨hp1,_,hp3⟩,hsrt,rfl⟩
   obtain ⟨hs',hx'⟩:=hsim m os d' (by rw [hds] at *;exact hp1)
   refine ⟨_, .tup [],_,rfl,hs',hx', .tup _ _ rfl (fun k hk=>absurd hk (by simp)),rfl,d'.toList.map Elm.t,?_,?_,?_⟩
   · have e1:d'.extract 0 l.length=d':=by rw [<-hds,<-hp1];simp
     have e2:d.extract 0 l.length=d:=by rw [<-hds];simp
     rw [e1,e2] at hp3
     have:=hp3.map Elm.t
     rwa [hdt] at this
   · rw [List.pairwise_map,List.pairwise_iff_getElem]
     intro i j hi hj hij
     have hj':j<d'.size:=by simpa using hj
     have h9:=hsrt i j (Nat.zero_le _) hij (by rw [<-hds,<-hp1];exact hj')
     rw [getElem!_pos d' j hj',getElem!_pos d' i (by omega)] at h9
     simpa [ltOf] using h9
   · rw [List.map_map];rfl
end
end
end Go.Proofs.YtgekknefphagbaaGreatDoor
