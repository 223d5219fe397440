/- Tables of a story: what comes of deeds, and how great that may be. No statement of the program. -/
import Derived.Test.YtbmbcjmgjdnlnaaGreatDoorRa2x
namespace Go.Proofs.YtbmbcjmgjdnlnaaGreatDoor
open Go.RowKit
set_option linter.unusedSimpArgs false
set_option linter.unusedVariables false
set_option linter.unusedSectionVars false
section
structure TDeed where
 what:Int
 who:Int
 k:Int
 x:Str
 deriving DecidableEq,Inhabited
def encDeed (d:TDeed):V:=.agg [.int .u8 d.what, .int .u8 d.who, .int .u8 d.k, .sl (d.x.map u8)]
def topicL:List Str:=[[97],[97,47,98],[98,47,99],[36,115,47,97],[97,47,47,98],[195,169,47,97],[99]]
def filterL:List Str:=[[97],[35],[97,47,43],[43,47,98],[97,47,35],[98,47,99],[36,115,47,35],[43],[43,47,43],[195,169,47,35]]
def topicM (k:Int):Str:=topicL.getD (k.tmod 7).toNat default
def filterM (k:Int):Str:=filterL.getD (k.tmod 10).toNat default
structure TSt where
 ts:List TTable
 es:List Int
 at_:Int
def tabT (s:TSt) (n:Int):TTable:=s.ts.getD n.toNat default
def epT (s:TSt) (n:Int):Int:=s.es.getD n.toNat default
def actT (s:TSt) (d:TDeed) (a:Int):TTable :=
 if d.what.tmod 8=0\/d.what.tmod 8=1 then routeAddM (tabT s (d.who.tmod 3)) (d.who.tmod 3) (epT s (d.who.tmod 3)) (filterM d.k)
 else if d.what.tmod 8=2 then routeDropM (tabT s (d.who.tmod 3)) (d.who.tmod 3) (epT s (d.who.tmod 3)) (filterM d.k)
 else if d.what.tmod 8=3\/d.what.tmod 8=4 then cellPutM (tabT s (d.who.tmod 3)) (d.who.tmod 3) (epT s (d.who.tmod 3)) ⟨a,d.k.tmod 2,d.who.tmod 3⟩ (topicM d.k) d.x (d.k.tmod 3)
 else if d.what.tmod 8=5 then (if d.k.tmod 4=0 then fenceM (tabT s (d.who.tmod 3)) ((d.k.tdiv 4).tmod 3) (epT s ((d.k.tdiv 4).tmod 3)) else tabT s (d.who.tmod 3))
 else mergeM (tabT s (d.who.tmod 3)) (tabT s (d.k.tmod 3))
def endT (s:TSt) (d:TDeed) (t:TTable):TSt :=
 ⟨s.ts.set (d.who.tmod 3).toNat t,if fencedL t.fences (d.who.tmod 3) (epT s (d.who.tmod 3))=true then s.es.set (d.who.tmod 3).toNat (epT s (d.who.tmod 3)+1) else s.es,s.at_+d.k.tmod 3⟩
def stepT (s:TSt) (d:TDeed):TSt:=endT s d (actT s d (s.at_+d.k.tmod 3))
def startT:TSt:=⟨[emptyT,emptyT,emptyT],[1,1,1],1⟩
def storyT (l:List TDeed):TSt:=l.foldl stepT startT
def tablesM (l:List TDeed):List TTable:=(storyT l).ts
theorem mem_add {l:List TDot} {d x:TDot} (h:x∈addM l d):x=d\/x∈l:=by
 unfold addM at h
 split at h
 · rename_i hr
   split at h
   · rename_i hc
     rcases ((put_facts (right_iff.1 hr) hc.1).2 x).1 h with h | h
     · exact .inl h
     · exact .inr h.1
   · exact .inr h
 · cases h
theorem mem_fold (b:List TDot):∀ (a:List TDot) (x:TDot),x∈b.foldl addM a->x∈a\/x∈b:=by
 induction b with
 | nil=>intro a x h;exact .inl h
 | cons d b ih =>
  intro a x h
  rcases ih _ x h with h | h
  · rcases mem_add h with rfl | h
    · exact .inr (List.mem_cons_self ..)
    · exact .inl h
  · exact .inr (List.mem_cons_of_mem _ h)
theorem mem_join {a b:List TDot} {x:TDot} (h:x∈joinM a b):x∈a\/x∈b:=by
 unfold joinM at h
 split at h
 · exact mem_fold b a x h
 · cases h
theorem mem_fenceL' {fe:List TFence} {n e:Int} {x:TFence} (h:x∈fenceL fe n e):x=⟨n,e⟩\/x∈fe:=by
 have key:∀ k,k<=fe.length->∀ x,x∈(fenceAcc fe n e k).1->x=⟨n,e⟩\/x∈fe:=by
  intro k
  induction k with
  | zero=>intro _ x hx;rw [fenceAcc_0] at hx;cases hx
  | succ k ih =>
   intro hk x hx
   rw [fenceAcc_more (by omega)] at hx
   have hm:fe.getD k default∈fe:=getD_mem (by omega)
   have ih:=ih (by omega)
   unfold stepFe at hx
   split at hx
   · split at hx
     · rcases List.mem_append.1 hx with hx | hx
       · exact ih x hx
       · rw [List.mem_singleton] at hx;exact .inl hx
     · exact ih x hx
   · split at hx
     · rcases List.mem_append.1 hx with hx | hx
       · rcases List.mem_append.1 hx with hx | hx
         · exact ih x hx
         · rw [List.mem_singleton] at hx;exact .inl hx
       · rw [List.mem_singleton] at hx;exact .inr (hx▸hm)
     · rcases List.mem_append.1 hx with hx | hx
       · exact ih x hx
       · rw [List.mem_singleton] at hx;exact .inr (hx▸hm)
 unfold fenceL at h
 split at h
 · exact key _ (Nat.le_refl _) x h
 · rcases List.mem_append.1 h with h | h
   · exact key _ (Nat.le_refl _) x h
   · rw [List.mem_singleton] at h;exact .inl h
theorem mem_fenceM {t:TTable} {n e:Int} {x:TFence} (h:x∈(fenceM t n e).fences):x=⟨n,e⟩\/x∈t.fences:=by
 unfold fenceM at h
 split at h
 · exact mem_fenceL' h
 · exact .inr h
theorem mem_mergeFe (l:List TFence):∀ (t:TTable) (x:TFence),x∈(mergeFe t l).fences->x∈t.fences\/x∈l:=by
 induction l with
 | nil=>intro t x h;exact .inl h
 | cons f l ih =>
  intro t x h
  rcases ih (fenceM t f.node f.epoch) x h with h | h
  · rcases mem_fenceM h with rfl | h
    · exact .inr (List.mem_cons_self ..)
    · exact .inl h
  · exact .inr (List.mem_cons_of_mem _ h)
structure All4 (ps:TDot->Prop) (pf:TFence->Prop) (pr:TRoute->Prop) (pc:TCell->Prop) (t:TTable):Prop where
 s:∀ d∈t.seen,ps d
 f:∀ f∈t.fences,pf f
 r:∀ r∈t.routes,pr r
 c:∀ c∈t.cells,pc c
section
variable {ps:TDot->Prop} {pf:TFence->Prop} {pr:TRoute->Prop} {pc:TCell->Prop}
theorem All4.empty:All4 ps pf pr pc emptyT:=⟨(fun _ h=>nomatch h),(fun _ h=>nomatch h),(fun _ h=>nomatch h),(fun _ h=>nomatch h)⟩
theorem All4.merge0 {a b:TTable} (ha:All4 ps pf pr pc a) (hb:All4 ps pf pr pc b):All4 ps pf pr pc (merge0 a b) where
 s d hd:=by
  rcases mem_join hd with h | h
  · exact ha.s d h
  · exact hb.s d h
 f:=ha.f
 r x hx:=by
  rcases (mergeRo_facts _ _).2 x hx with h | h
  · exact ha.r x (List.filter_sublist.subset h)
  · exact hb.r x (List.filter_sublist.subset h)
 c x hx:=by
  rcases (mergeCe_facts _ _).2 x hx with h | h
  · exact ha.c x (List.filter_sublist.subset h)
  · exact hb.c x (List.filter_sublist.subset h)
theorem All4.merge {a b:TTable} (ha:All4 ps pf pr pc a) (hb:All4 ps pf pr pc b):All4 ps pf pr pc (mergeM a b):=by
 have h0:=ha.merge0 hb
 obtain ⟨h1,h2,_,h4⟩:=mergeFe_facts b.fences (Go.Proofs.YtbmbcjmgjdnlnaaGreatDoor.merge0 a b)
 have h2':All4 ps pf pr pc (merge2 a b):=by
  refine ⟨?_,?_,?_,?_⟩
  · show ∀ d∈(mergeFe _ _).seen,ps d
    rw [h1];exact h0.s
  · intro x hx
    rcases mem_mergeFe _ _ x hx with h | h
    · exact h0.f x h
    · exact hb.f x h
  · intro x hx
    exact h0.r x (h4.subset (List.filter_sublist.subset hx))
  · show ∀ d∈(mergeFe _ _).cells,pc d
    rw [h2];exact h0.c
 unfold mergeM
 split
 · split
   · split
     · exact h2'
     · exact ha
   · exact ha
 · split
   · exact hb
   · exact All4.empty
theorem All4.add {t:TTable} (h:All4 ps pf pr pc t) (n e:Int) (f:Str) (h1:fencedL t.fences n e=false->pairB n e=true->ps (nextDot t.seen n e)) (h2:pr ⟨nextDot t.seen n e,f⟩):All4 ps pf pr pc (routeAddM t n e f):=by
 unfold routeAddM
 split
 · rename_i hc
   refine ⟨fun d hd=>?_,h.f,fun r hr=>?_,h.c⟩
   · rcases mem_add hd with rfl | hd
     · exact h1 hc.2.2 hc.2.1
     · exact h.s d hd
   · rcases mem_insR.1 hr with rfl | hr
     · exact h2
     · exact h.r r ((without_sub _ _ _ _).subset hr)
 · exact h
theorem All4.drop {t:TTable} (h:All4 ps pf pr pc t) (n e:Int) (f:Str) (h1:ps (nextDot t.seen n e)):All4 ps pf pr pc (routeDropM t n e f):=by
 unfold routeDropM
 split
 · refine ⟨fun d hd=>?_,h.f,fun r hr=>h.r r ((without_sub _ _ _ _).subset hr),h.c⟩
   rcases mem_add hd with rfl | hd
   · exact h1
   · exact h.s d hd
 · exact h
theorem All4.fence {t:TTable} (h:All4 ps pf pr pc t) (n e:Int) (h1:pf ⟨n,e⟩):All4 ps pf pr pc (fenceM t n e):=by
 unfold fenceM
 split
 · refine ⟨h.s,fun f hf=>?_,fun r hr=>h.r r (List.filter_sublist.subset hr),h.c⟩
   rcases mem_fenceL' hf with rfl | hf
   · exact h1
   · exact h.f f hf
 · exact h
theorem All4.put {t:TTable} (h:All4 ps pf pr pc t) (n e:Int) (s:TStamp) (m1 m2:Str) (m3:Int) (h1:ps (nextDot t.seen n e)) (h2:pc (putC (nextDot t.seen n e) s.l s.c s.node m1 m2 m3)):All4 ps pf pr pc (cellPutM t n e s m1 m2 m3):=by
 unfold cellPutM
 split
 · refine ⟨fun d hd=>?_,h.f,h.r,fun c hc=>?_⟩
   · rcases mem_add hd with rfl | hd
     · exact h1
     · exact h.s d hd
   · rcases mem_cellIn hc with rfl | hc
     · exact h2
     · exact h.c c hc
 · exact h
end
abbrev Rng (i:Nat):TTable->Prop:=All4 (fun d=>(0<=d.node/\d.node<3)/\(1<=d.epoch/\d.epoch<=i+1)/\(1<=d.n/\d.n<=i)) (fun f=>(0<=f.node/\f.node<3)/\(1<=f.epoch/\f.epoch<=i+1)) (fun r=>r.filter∈filterL) (fun c=>c.topic∈topicL/\c.payload.length<=30/\1<=c.stamp.l/\c.stamp.l<=1+2 * i/\(c.stamp.c=0\/c.stamp.c=1))
theorem Rng.mono {i j:Nat} {t:TTable} (h:Rng i t) (hij:i<=j):Rng j t where
 s d hd:=by have:=h.s d hd;omega
 f d hd:=by have:=h.f d hd;omega
 r:=h.r
 c c hc:=by
  obtain ⟨h1,h2,h3,h4,h5⟩:=h.c c hc
  exact ⟨h1,h2,h3,by omega,h5⟩
theorem top_le {i:Nat} {l:List TDot} (hr:rightB l=true) (h:∀ d∈l,d.n<=i) (n e:Int):0<=topM l n e/\topM l n e<=i:=by
 rcases top_cases hr n e with ⟨d,hd,_,_,h3⟩ | ⟨_,h3⟩
 · have:=h d hd
   have:=(right_iff.1 hr).2 d hd
   rw [one_iff] at this
   omega
 · rw [h3];omega
theorem filterM_mem {k:Int} (h:0<=k):filterM k∈filterL:=by
 have h1:=Int.tmod_nonneg 10 h
 have h2:=Int.tmod_lt_of_pos k (show (0:Int)<10 by decide)
 exact getD_mem (by show _<10;omega)
theorem topicM_mem {k:Int} (h:0<=k):topicM k∈topicL:=by
 have h1:=Int.tmod_nonneg 7 h
 have h2:=Int.tmod_lt_of_pos k (show (0:Int)<7 by decide)
 exact getD_mem (by show _<7;omega)
def deedOk (d:TDeed):Prop:=(0<=d.what/\d.what<=255)/\(0<=d.who/\d.who<=255)/\(0<=d.k/\d.k<=255)/\d.x.length<=30
structure Story (i:Nat) (s:TSt):Prop where
 lt:s.ts.length=3
 le:s.es.length=3
 tr:∀ t∈s.ts,TR t
 rng:∀ t∈s.ts,Rng i t
 ep:∀ e∈s.es,1<=e/\e<=i+1
 at1:1<=s.at_
 at2:s.at_<=1+2 * i
theorem Story.start:Story 0 startT:=⟨rfl,rfl,(fun t h=>by simp [startT] at h;subst h;exact tr_empty),(fun t h=>by simp [startT] at h;subst h;exact All4.empty),(fun e h=>by simp [startT] at h;omega),by decide,by decide⟩
theorem tmod3 {k:Int} (h:0<=k):0<=k.tmod 3/\k.tmod 3<3:=⟨Int.tmod_nonneg 3 h,Int.tmod_lt_of_pos k (by decide)⟩
theorem Story.tab {i:Nat} {s:TSt} (h:Story i s) {n:Int} (hn:0<=n/\n<3):TR (tabT s n)/\Rng i (tabT s n)/\(1<=epT s n/\epT s n<=i+1):=by
 have h1:=h.lt;have h2:=h.le
 exact ⟨h.tr _ (getD_mem (by omega)),h.rng _ (getD_mem (by omega)),h.ep _ (getD_mem (by omega))⟩
theorem Story.act {i:Nat} {s:TSt} (h:Story i s) {d:TDeed} (hd:deedOk d):TR (actT s d (s.at_+d.k.tmod 3))/\Rng (i+1) (actT s d (s.at_+d.k.tmod 3)):=by
 obtain ⟨hw,ho,hk,hx⟩:=hd
 have m:=tmod3 ho.1
 have mk:=tmod3 hk.1
 obtain ⟨t1,t2,t3⟩:=h.tab m
 have t2':=t2.mono (Nat.le_succ i)
 have tl:=top_le t1.seen (fun d hd=>(t2.s d hd).2.2.2) (d.who.tmod 3) (epT s (d.who.tmod 3))
 have nx:((0<=(nextDot (tabT s (d.who.tmod 3)).seen (d.who.tmod 3) (epT s (d.who.tmod 3))).node/\(nextDot (tabT s (d.who.tmod 3)).seen (d.who.tmod 3) (epT s (d.who.tmod 3))).node<3)/\(1<=(nextDot (tabT s (d.who.tmod 3)).seen (d.who.tmod 3) (epT s (d.who.tmod 3))).epoch/\(nextDot (tabT s (d.who.tmod 3)).seen (d.who.tmod 3) (epT s (d.who.tmod 3))).epoch<=((i+1:Nat):Int)+1)/\(1<=(nextDot (tabT s (d.who.tmod 3)).seen (d.who.tmod 3) (epT s (d.who.tmod 3))).n/\(nextDot (tabT s (d.who.tmod 3)).seen (d.who.tmod 3) (epT s (d.who.tmod 3))).n<=((i+1:Nat):Int))):=by
  simp only [nextDot]
  omega
 unfold actT
 split
 · exact ⟨t1.add _ _ _,t2'.add _ _ _ (fun _ _=>nx) (filterM_mem hk.1)⟩
 · split
   · exact ⟨t1.drop _ _ _,t2'.drop _ _ _ nx⟩
   · split
     · refine ⟨t1.put _ _ _ _ _ _,t2'.put _ _ _ _ _ _ nx ⟨topicM_mem hk.1,hx,?_,?_,?_⟩⟩
       · have:=h.at1;show 1<=s.at_+_;omega
       · have:=h.at2;show s.at_+_<=1+2 * ((i+1:Nat):Int);omega
       · have h1:=Int.tmod_nonneg 2 hk.1
         have h2:=Int.tmod_lt_of_pos d.k (show (0:Int)<2 by decide)
         show d.k.tmod 2=0\/d.k.tmod 2=1;omega
     · split
       · split
         · have m4:=tmod3 (Int.tdiv_nonneg hk.1 (show (0:Int)<=4 by decide))
           obtain ⟨_,_,e3⟩:=h.tab m4
           exact ⟨t1.fence _ _,t2'.fence _ _ ⟨m4,e3.1,by have:=e3.2;show epT s _<=((i+1:Nat):Int)+1;omega⟩⟩
         · exact ⟨t1,t2'⟩
       · obtain ⟨k1,k2,_⟩:=h.tab mk
         exact ⟨t1.merge k1,t2'.merge (k2.mono (Nat.le_succ i))⟩
theorem mem_set_of {α:Type} {l:List α} {k:Nat} {a x:α} (h:x∈l.set k a):x∈l\/x=a:=List.mem_or_eq_of_mem_set h
theorem Story.step {i:Nat} {s:TSt} (h:Story i s) {d:TDeed} (hd:deedOk d):Story (i+1) (stepT s d):=by
 obtain ⟨a1,a2⟩:=h.act hd
 obtain ⟨hw,ho,hk,hx⟩:=hd
 have m:=tmod3 ho.1
 have mk:=tmod3 hk.1
 obtain ⟨_,_,t3⟩:=h.tab m
 refine ⟨?_,?_,fun t ht=>?_,fun t ht=>?_,fun e he=>?_,?_,?_⟩
 · simp only [stepT,endT,List.length_set];exact h.lt
 · simp only [stepT,endT];split
   · rw [List.length_set];exact h.le
   · exact h.le
 · rcases mem_set_of ht with ht | rfl
   · exact h.tr t ht
   · exact a1
 · rcases mem_set_of ht with ht | rfl
   · exact (h.rng t ht).mono (Nat.le_succ i)
   · exact a2
 · simp only [stepT,endT] at he
   split at he
   · rcases mem_set_of he with he | rfl
     · have:=h.ep e he;omega
     · omega
   · have:=h.ep e he;omega
 · have:=h.at1;show 1<=s.at_+_;omega
 · have:=h.at2;show s.at_+_<=1+2 * ((i+1:Nat):Int);omega
theorem Story.take {l:List TDeed} (h:∀ d∈l,deedOk d):∀ k,k<=l.length->Story k ((l.take k).foldl stepT startT):=by
 intro k
 induction k with
 | zero=>intro _;exact Story.start
 | succ k ih =>
  intro hk
  rw [foldl_more _ _ (by omega)]
  exact (ih (by omega)).step (h _ (getD_mem (by omega)))
theorem Story.of {l:List TDeed} (h:∀ d∈l,deedOk d):Story l.length (storyT l):=by
 have:=Story.take h l.length (Nat.le_refl _)
 rwa [List.take_length] at this
theorem pigeon:∀ (n:Nat) (l:List Nat),l.Pairwise (fun a b=>a≠b)->(∀ x∈l,x<n)->l.length<=n
 | 0,[],_,_=>Nat.le_refl _
 | 0,x::l,_,h=>absurd (h x (List.mem_cons_self ..)) (Nat.not_lt_zero _)
 | n+1,l,hp,h=>by
  have h1:(l.erase n).length<=n:=by
   refine pigeon n _ (hp.sublist List.erase_sublist) fun x hx=>?_
   have hne:=(List.Nodup.mem_erase_iff hp).1 hx
   have:=h x hne.2
   have:=hne.1
   omega
  rw [List.length_erase] at h1
  split at h1<;>omega
theorem pigeon_map {α:Type} (f:α->Nat) (n:Nat) {l:List α} (hp:l.Pairwise (fun a b=>f a≠f b)) (h:∀ x∈l,f x<n):l.length<=n:=by
 have:=pigeon n (l.map f) (List.pairwise_map.2 hp) (fun x hx=>by obtain ⟨y,hy,rfl⟩:=List.mem_map.1 hx;exact h y hy)
 rwa [List.length_map] at this
theorem pw_mem {α:Type} {R S:α->α->Prop} {l:List α} (h:l.Pairwise R) (hs:∀ a∈l,∀ b∈l,R a b->S a b):l.Pairwise S:=h.imp_of_mem (fun ha hb hab=>hs _ ha _ hb hab)
theorem story_len {i:Nat} {t:TTable} (hi:i<=20) (h:TR t) (hr:Rng i t):t.seen.length<=96/\t.fences.length<=3/\t.routes.length+t.cells.length<=3072:=by
 refine ⟨?_,?_,?_⟩
 · refine pigeon_map (fun d=>(d.node * 32+d.epoch).toNat) 96 (pw_mem (right_iff.1 h.seen).1 fun a ha b hb hab=>?_) fun d hd=>?_
   · have h1:=hr.s a ha;have h2:=hr.s b hb;have:=ahead_iff.1 hab
     show (a.node * 32+a.epoch).toNat≠(b.node * 32+b.epoch).toNat
     omega
   · have h1:=hr.s d hd
     show (d.node * 32+d.epoch).toNat<96
     omega
 · refine pigeon_map (fun f=>f.node.toNat) 3 (pw_mem h.fences.1 fun a ha b hb hab=>?_) fun d hd=>?_
   · have h1:=hr.f a ha;have h2:=hr.f b hb
     show a.node.toNat≠b.node.toNat
     omega
   · have h1:=hr.f d hd
     show d.node.toNat<3
     omega
 · have hin:∀ d∈dotsOf t.routes t.cells,(0<=d.node/\d.node<3)/\(1<=d.epoch/\d.epoch<=i+1)/\(1<=d.n/\d.n<=i):=by
    intro d hd
    have hh:=has_iff.1 (h.hasDots d hd)
    rcases top_cases h.seen d.node d.epoch with ⟨x,hx,h1,h2,h3⟩ | ⟨_,h3⟩
    · have:=hr.s x hx;omega
    · omega
   have:=pigeon_map (fun d:TDot=>((d.node * 32+d.epoch) * 32+d.n).toNat) 3072 (pw_mem h.fresh fun a ha b hb hab=>?_) fun d hd=>?_
   · rwa [dotsOf_len] at this
   · have h1:=hin a ha;have h2:=hin b hb
     show ((a.node * 32+a.epoch) * 32+a.n).toNat≠((b.node * 32+b.epoch) * 32+b.n).toNat
     intro e
     refine hab ?_
     cases a;cases b
     simp only [TDot.mk.injEq] at *
     omega
   · have h1:=hin d hd
     show ((d.node * 32+d.epoch) * 32+d.n).toNat<3072
     omega
theorem story_lite {i:Nat} {t:TTable} (hi:i<=20) (h:TR t) (hr:Rng i t):Lite 3072 t:=by
 obtain ⟨h1,h2,h3⟩:=story_len hi h hr
 refine ⟨by omega,by omega,by omega,by omega,fun r hr'=>?_,fun c hc=>?_,fun c hc=>?_⟩
 · have:=hr.r r hr'
   have key:∀ f∈filterL,f.length<=65535:=by decide
   exact key _ this
 · have:=(hr.c c hc).1
   have key:∀ f∈topicL,f.length<=65535:=by decide
   exact key _ this
 · have:=(hr.c c hc).2.1;omega
end
end Go.Proofs.YtbmbcjmgjdnlnaaGreatDoor
