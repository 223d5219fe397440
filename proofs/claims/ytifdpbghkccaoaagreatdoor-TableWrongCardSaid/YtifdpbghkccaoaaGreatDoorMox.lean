/- What Merge asks for, as data. -/
import Derived.Test.YtifdpbghkccaoaaGreatDoorMfx
import Derived.Test.YtifdpbghkccaoaaGreatDoorMkx
import Derived.Test.YtifdpbghkccaoaaGreatDoorMjx
import Derived.Test.YtifdpbghkccaoaaGreatDoorMlx
import Derived.Test.YtifdpbghkccaoaaGreatDoorTm2x
import Derived.Test.YtifdpbghkccaoaaGreatDoorDd2x
import Derived.Test.YtifdpbghkccaoaaGreatDoorPt7x
import Derived.KernelRfl
import Derived.Test.YtifdpbghkccaoaaGreatDoorHtx
namespace Go.Proofs.YtifdpbghkccaoaaGreatDoor
open Go.RowKit
set_option linter.unusedSimpArgs false
set_option linter.unusedVariables false
set_option linter.unusedSectionVars false
set_option maxHeartbeats 4000000
set_option maxRecDepth 100000
section
theorem sorted_ext {α:Type} {R:α->α->Prop} (irr:∀ a,¬ R a a) (tr:∀ a b c,R a b->R b c->R a c):∀ {l m:List α},l.Pairwise R->m.Pairwise R->(∀ x,x∈l↔x∈m)->l=m
 | [],[],_,_,_=>rfl
 | [],b::m,_,_,h=>absurd ((h b).2 (List.mem_cons_self ..)) List.not_mem_nil
 | a::l,[],_,_,h=>absurd ((h a).1 (List.mem_cons_self ..)) List.not_mem_nil
 | a::l,b::m,h1,h2,h=>by
  have h1':=List.pairwise_cons.1 h1
  have h2':=List.pairwise_cons.1 h2
  have hab:a=b:=by
   rcases List.mem_cons.1 ((h a).1 (List.mem_cons_self ..)) with e | ha
   · exact e
   · rcases List.mem_cons.1 ((h b).2 (List.mem_cons_self ..)) with e | hb
     · exact e.symm
     · exact absurd (tr _ _ _ (h1'.1 b hb) (h2'.1 a ha)) (irr a)
  subst hab
  rw [sorted_ext irr tr h1'.2 h2'.2 fun x=>⟨fun hx=>?_,fun hx=>?_⟩]
  · rcases List.mem_cons.1 ((h x).1 (List.mem_cons_of_mem _ hx)) with rfl | e
    · exact absurd (h1'.1 x hx) (irr x)
    · exact e
  · rcases List.mem_cons.1 ((h x).2 (List.mem_cons_of_mem _ hx)) with rfl | e
    · exact absurd (h2'.1 x hx) (irr x)
    · exact e
theorem foundF_yes {l:List TFence} {n:Int} (hf:foundF l n=true):(l.getD (placeF l n) default).node=n:=by
 simp only [foundF,Bool.and_eq_true,beq_iff_eq] at hf;exact (cmpI_z _ _).1 hf.2
theorem foundF_no {l:List TFence} (h:FR l) {n:Int} (hf:foundF l n=false):(∀ x∈l.take (placeF l n),x.node<n)/\(∀ x∈l.drop (placeF l n),n<x.node):=by
 obtain ⟨_,f2,f3,f4⟩:=firstK_le (fun i=>!decide ((l.getD i default).node<n)) l.length 0
 obtain ⟨p,hp⟩:∃ p,p=placeF l n:=⟨_,rfl⟩
 have hp':firstK (fun i=>!decide ((l.getD i default).node<n)) l.length 0=p:=hp.symm
 rw [hp'] at f2 f3 f4
 rw [<-hp]
 constructor
 · intro x hx
   obtain ⟨i,hi,rfl⟩:=(mem_take_iff (by omega)).1 hx
   have:=f3 i (Nat.zero_le _) hi
   simpa using this
 · intro x hx
   obtain ⟨i,hi,hl,rfl⟩:=mem_drop_iff.1 hx
   have h5:=f4 (by omega)
   have h6:¬ (l.getD p default).node<n:=by simpa using h5
   have h7:(l.getD p default).node≠n:=fun e=>by
    have:foundF l n=true:=by
     unfold foundF;rw [<-hp];simp only [Bool.and_eq_true,decide_eq_true_eq,beq_iff_eq];exact ⟨by omega,(cmpI_z _ _).2 e⟩
    rw [hf] at this;cases this
   rcases Nat.eq_or_lt_of_le hi with rfl | hlt
   · omega
   · have:=pw_at h.1 hlt hl
     omega
theorem foundF_of {l:List TFence} (h:FR l) {x:TFence} (hx:x∈l):foundF l x.node=true/\l.getD (placeF l x.node) default=x:=by
 have key:foundF l x.node=true:=by
  cases hf:foundF l x.node with
  | true=>rfl
  | false =>
   obtain ⟨h1,h2⟩:=foundF_no h hf
   rw [<-List.take_append_drop (placeF l x.node) l] at hx
   rcases List.mem_append.1 hx with hx | hx
   · exact absurd (h1 x hx) (Int.lt_irrefl _)
   · exact absurd (h2 x hx) (Int.lt_irrefl _)
 refine ⟨key,?_⟩
 have h1:=foundF_yes key
 have h2:=foundF_lt key
 obtain ⟨i,hi,rfl⟩:=mem_getD hx
 rcases Nat.lt_trichotomy (placeF l (l.getD i default).node) i with h3 | h3 | h3
 · have:=pw_at h.1 h3 hi;omega
 · rw [h3]
 · have:=pw_at h.1 h3 h2;omega
theorem fence_new {fe:List TFence} (h:FR fe) {n e:Int} (hp:pairB n e=true) (hf:fencedL fe n e=false):fenceP fe n e=fenceL fe n e:=by
 have hno:∀ x∈fe,x.node=n->x.epoch<e:=fun x hx hn=>by
  rcases Int.lt_or_le x.epoch e with h1 | h1
  · exact h1
  · have:=fenced_iff.2 ⟨x,hx,hn,h1⟩
    rw [hf] at this;cases this
 refine sorted_ext (R:=fun a b=>a.node<b.node) (fun a=>Int.lt_irrefl _) (fun _ _ _=>Int.lt_trans) ?_ (fence_right h hp).1 fun x=>?_
 · cases hff:foundF fe n with
   | true =>
    have h1:=foundF_yes hff
    have h2:=foundF_lt hff
    rw [fenceP_1 hff,List.set_eq_take_append_cons_drop,if_pos h2]
    have h3:=h.1
    rw [splitAt_ fe h2,List.pairwise_append,List.pairwise_cons] at h3
    obtain ⟨a1,⟨a2,a3⟩,a4⟩:=h3
    rw [List.pairwise_append,List.pairwise_cons]
    refine ⟨a1,⟨a2,a3⟩,fun a ha b hb=>?_⟩
    rcases List.mem_cons.1 hb with rfl | hb
    · exact a4 a ha (fe.getD (placeF fe n) default) (List.mem_cons_self ..)
    · exact a4 a ha b (List.mem_cons_of_mem _ hb)
   | false =>
    obtain ⟨h1,h2⟩:=foundF_no h hff
    rw [fenceP_2 hff]
    exact pw_ins (by rw [List.take_append_drop];exact h.1) h1 h2
 · rw [mem_fenceL h]
   cases hff:foundF fe n with
   | true =>
    have h1:=foundF_yes hff
    have h2:=foundF_lt hff
    have h4:=hno _ (getD_mem h2) h1
    have hm:max (fe.getD (placeF fe n) default).epoch e=e:=by omega
    rw [fenceP_1 hff,List.set_eq_take_append_cons_drop,if_pos h2,hm,h1,List.mem_append,List.mem_cons]
    have h3:=h.1
    have hs:=splitAt_ fe h2
    have hm2:∀ y,y∈fe↔y∈fe.take (placeF fe n)\/y=fe.getD (placeF fe n) default\/y∈fe.drop (placeF fe n+1):=fun y=>by
     conv=>lhs;rw [hs]
     rw [List.mem_append,List.mem_cons]
    rw [hs,List.pairwise_append,List.pairwise_cons] at h3
    obtain ⟨a1,⟨a2,a3⟩,a4⟩:=h3
    rw [hm2 x]
    constructor
    · rintro (hx | rfl | hx)
      · exact .inr ⟨.inl hx,by have:=a4 x hx _ (List.mem_cons_self ..);omega⟩
      · exact .inl rfl
      · exact .inr ⟨.inr (.inr hx),by have:=a2 x hx;omega⟩
    · rintro (rfl | ⟨hx | rfl | hx,hn⟩)
      · exact .inr (.inl rfl)
      · exact .inl hx
      · exact absurd h1 hn
      · exact .inr (.inr hx)
   | false =>
    obtain ⟨h1,h2⟩:=foundF_no h hff
    rw [fenceP_2 hff,List.mem_append,List.mem_cons]
    have hm2:x∈fe↔x∈fe.take (placeF fe n)\/x∈fe.drop (placeF fe n):=by
     conv=>lhs;rw [<-List.take_append_drop (placeF fe n) fe]
     rw [List.mem_append]
    rw [hm2]
    constructor
    · rintro (hx | rfl | hx)
      · exact .inr ⟨.inl hx,by have:=h1 x hx;omega⟩
      · exact .inl rfl
      · exact .inr ⟨.inr hx,by have:=h2 x hx;omega⟩
    · rintro (rfl | ⟨hx | hx,hn⟩)
      · exact .inr (.inl rfl)
      · exact .inl hx
      · exact .inr (.inr hx)
theorem fence_old {fe:List TFence} (h:FR fe) {n e:Int} (hf:fencedL fe n e=true):fenceP fe n e=fe:=by
 obtain ⟨x,hx,rfl,he⟩:=fenced_iff.1 hf
 obtain ⟨h1,h2⟩:=foundF_of h hx
 rw [fenceP_1 h1,h2,Int.max_eq_left he]
 have:=foundF_lt h1
 conv=>rhs;rw [<-set_same this,h2]
theorem DC.frzX {P:Program} {f:FuncId} {args:List V} {H F:Own} {X:Type} {Q:X->Prop} {sz:Nat} {l:X->List V} (hz:0<sz) (hl:∀ x,∀ y∈l x,y.n=sz)
  (h:DC P f args H fun d G=>∃ v x,d = .ar v (l x).length/\Q x/\G = .arr sz v (cells (l x))::F):DC P f args H fun d G=>∃ x,Q x/\d = .sl (l x)/\G=F :=
 ⟨h.1,fun xs w hs hn hr=>(h.2 xs w hs hn hr).mono fun e w' ⟨u,d,H',he,s,ex,r,v,x,hd,hq,hG⟩=>by
   subst hd hG
   obtain ⟨⟨g1,g2⟩,g3⟩:=Sim.frz (L1:=[]) s hz (hl x)
   have k1:Ext w' (.tail sz v::F) w' F:=Ext.drop fun x hx=>List.mem_cons_of_mem _ hx
   have r1:R (stable w' F) w' u (.gs v (l x)):=(R.cv g3 (Cv.hit _) (g2.rel r)).mono k1.cells
   exact ⟨u, .sl (l x),F,he,g1.drop (List.sublist_cons_self _ _),(ex.trans g2).trans k1,le.gs rfl _ _ _ r1,x,hq,rfl,rfl⟩⟩
theorem DW.own0B (sz b i:Nat) {P:Program} {n:Nat} {Q:Exit->Env->Own->Prop} {e:Env} {H:Own} {c:Code} {cs:List V} (ht:cs.getD i .any = .gs (.slice none 0 0) [])
  (h:DW P n c Q e (.arr sz (.slice none 0 0) [] :: .blk b (cs.set i (.ar (.slice none 0 0) 0))::H)):DW P n c Q e (.blk b cs::H):=fun a w hs hr=>by
 obtain ⟨k1,k2⟩:=Sim.swap (L1:=[]) (w':=w) (e0:=.blk b cs) (e1:=.blk b (cs.set i (.ar (.slice none 0 0) 0))) hs rfl rfl rfl (Nat.le_refl _) (fun _ _ _=>rfl) (fun _ _ _=>rfl) (fun b hb=>.inl hb) (fun q hq=>.inl hq) (fun hst=>by
  obtain ⟨xs,T,fr,h1,h2,h3,h4⟩:=hs.holds (.blk b cs) (by simp)
  refine ⟨xs,T,fr,h1,h2,by rw [List.length_set];exact h3,fun k hk=>?_⟩
  rw [List.length_set] at hk
  have h5:=(h4 k hk).mono hst
  by_cases hki:i=k
  · subst hki
    rw [ht] at h5
    have e1:(cs.set i (V.ar (.slice none 0 0) 0)).getD i .any = .ar (.slice none 0 0) 0:=by rw [List.getD_eq_getElem?_getD,List.getElem?_set_self hk];rfl
    rw [e1]
    generalize xs.getD i undef=y at h5 ⊢
    cases h5
    exact .ar _ _ _ (Nat.le_refl _) (fun _=>rfl)
  · have e1:(cs.set i (V.ar (.slice none 0 0) 0)).getD k .any=cs.getD k .any:=by rw [List.getD_eq_getElem?_getD,List.getElem?_set_ne hki,<-List.getD_eq_getElem?_getD]
    rw [e1];exact h5)
 obtain ⟨g1,g2⟩:=k1.arr0 sz
 have x2:=k2.trans g2
 exact wp_mono (h a w g1 ⟨hr.size,fun u=>x2.rel (hr.slot u)⟩) fun x a1 w1 ⟨hd,e1,H1,s,r,x1,q⟩=>⟨hd,e1,H1,s,r,x2.trans x1,q⟩
def fenceS (fe:List TFence) (n e:Int):List TFence:=if pairB n e=true/\fencedL fe n e=false then fenceL fe n e else fe
theorem fenceS_right {fe:List TFence} (h:FR fe) (n e:Int):FR (fenceS fe n e):=by
 unfold fenceS;split
 · rename_i hc;exact fence_right h hc.1
 · exact h
theorem fenceS_is {fe:List TFence} (h:FR fe) {n e:Int} (hp:pairB n e=true):fenceP fe n e=fenceS fe n e:=by
 unfold fenceS
 cases hf:fencedL fe n e with
 | true=>rw [if_neg (by simp),fence_old h hf]
 | false=>rw [if_pos ⟨hp,rfl⟩,fence_new h hp hf]
def fencesK (fe:List TFence) (l:List TFence) (k:Nat):List TFence:=(l.take k).foldl (fun fe f=>fenceS fe f.node f.epoch) fe
theorem fencesK_0 (fe l:List TFence):fencesK fe l 0=fe:=rfl
theorem fencesK_s {fe l:List TFence} {k:Nat} (h:k<l.length):fencesK fe l (k+1)=fenceS (fencesK fe l k) (l.getD k default).node (l.getD k default).epoch:=foldl_more _ _ h
theorem fencesK_right {fe l:List TFence} (h:FR fe):∀ k,k<=l.length->FR (fencesK fe l k)
 | 0,_=>h
 | k+1,hk=>by rw [fencesK_s (by omega)];exact fenceS_right (fencesK_right h k (by omega)) _ _
theorem FR.few {fe:List TFence} (h:FR fe):fe.length<=16:=by
 have hp:=h.1
 have hm:∀ x∈fe,x.node.toNat<16:=fun x hx=>by
  have:=h.2 x hx
  simp only [pairB,Bool.and_eq_true,decide_eq_true_eq] at this
  omega
 have hq:fe.Pairwise fun a b=>a.node.toNat≠b.node.toNat:=by
  refine hp.imp_of_mem fun {a b} ha hb hab=>?_
  have h1:=h.2 a ha;have h2:=h.2 b hb
  simp only [pairB,Bool.and_eq_true,decide_eq_true_eq] at h1 h2
  omega
 exact pigeon_map (fun x:TFence=>x.node.toNat) 16 hq hm
theorem prM_dc (t:TTable) (m:Int) (F:Own):(Lite 1000000000 t)->DC Tryz.prog 12 [.agg [.sl (t.seen.map encDot), .sl (t.fences.map encFence), .sl (t.routes.map encRoute), .sl (t.cells.map encCell)]] ([knF,knA,knM m]++F) fun d G=>d = .bool (tabB t)/\G=[knF,knA,knM m]++F:=fun h =>
 ptright_dc t.seen t.fences t.routes t.cells m F ⟨⟨h.s,h.f,h.r,h.c⟩,fun k hk=>Nat.le_trans (h.rf _ (getD_mem hk)) (by decide),fun k hk=>Nat.le_trans (h.ct _ (getD_mem hk)) (by decide),fun k hk=>h.cp _ (getD_mem hk)⟩
theorem fclone_dc (l:List TFence) (F:Own):l.length<=1000000000->DC Tryz.prog 28 [.sl (l.map encFence)] (([]:Own)++F) fun d G=>d = .sl (l.map encFence)/\G=[]++F:=fun h =>
 DC.le_ (fun v=>.gs v (l.map encFence)) (fun v=>le.gs rfl) ((DC.frz (F:=F) (K:=fun _=>True) (D:=fun v=>.ar v l.length) (D':=fun v=>.gs v (l.map encFence)) (sz:=2) (l:=l.map encFence) (L:=fun _=>F) (by decide) (fun y hy=>by obtain ⟨x,_,rfl⟩:=List.mem_map.1 hy;rfl) (fun v=>.hit _)
  ((clof_dc l F h).mono fun d G ⟨v,h1,h2⟩=>⟨v,h1,h2,trivial⟩)).mono fun d G ⟨v,h1,h2,_⟩=>⟨v,h1,h2⟩)
def KeptOf (p q:TTable) (ce:List TCell):Prop:=(∃ D:CMap,D.Perm (kM p q p.cells.length)/\ce.Perm (keptAll p q D))/\ce.Pairwise (fun x y=>Op.bytesLess y.topic x.topic=false)
theorem keptF_dc (p q:TTable) (F:Own):(p.cells.length<=100000000/\q.cells.length<=100000000/\p.seen.length<=100000000/\q.seen.length<=100000000)->DC Tryz.prog 29 [.agg [.sl (p.seen.map encDot), .sl (p.fences.map encFence), .sl (p.routes.map encRoute), .sl (p.cells.map encCell)], .agg [.sl (q.seen.map encDot), .sl (q.fences.map encFence), .sl (q.routes.map encRoute), .sl (q.cells.map encCell)]] (([]:Own)++F) fun d G=>∃ ce,KeptOf p q ce/\d = .sl (ce.map encCell)/\G=[]++F:=fun h =>
 (DC.frzX (X:=List TCell) (Q:=KeptOf p q) (sz:=10) (l:=fun ce=>ce.map encCell) (by decide) (fun x y hy=>by obtain ⟨z,_,rfl⟩:=List.mem_map.1 hy;rfl)
   ((kept_dc p q F h).mono fun d G ⟨v,ce,h1,h2,h3,h4⟩=>⟨v,ce,by rw [List.length_map];exact h1,⟨h2,h3⟩,h4⟩)).mono fun d G ⟨ce,h1,h2,h3⟩=>⟨ce,h1,h2,h3⟩
theorem fenceN_dc (se:List TDot) (fe:List TFence) (ce:List TCell) (n e:Int) (F:Own):((se.length<=1000000000/\fe.length<=1000000000/\ce.length<=1000000000/\∀ k,k<ce.length->(ce.getD k default).payload.length<=1000000000)/\FR fe/\pairB n e=true)->DC Tryz.prog 30 [.agg [.sl (se.map encDot), .sl (fe.map encFence), .gs (.slice none 0 0) [], .sl (ce.map encCell)], .int .i64 n, .int .i64 e] (([]:Own)++F) fun d G=>d = .agg [.sl (se.map encDot), .sl ((fenceS fe n e).map encFence), .gs (.slice none 0 0) [], .sl (ce.map encCell)]/\G=[]++F:=fun h =>
 (pfenceN_dc se fe ce n e F ⟨h.1,h.2.1,Nat.le_trans h.2.1.few (by decide)⟩).mono fun d G ⟨h1,h2⟩=>by
   rcases h1 with ⟨ha,_⟩ | ⟨_,hd⟩
   · rw [h.2.2] at ha;exact absurd ha (by decide)
   · rw [fenceS_is h.2.1 h.2.2] at hd;exact ⟨hd,h2⟩
theorem left0_dc (p q:TTable) (mr:Nat) (F:Own):(p.routes.length<=100000000/\q.routes.length<=100000000/\q.seen.length<=100000000)->DC Tryz.prog 31 [.agg [.sl (p.seen.map encDot), .sl (p.fences.map encFence), .sl (p.routes.map encRoute), .sl (p.cells.map encCell)], .agg [.sl (q.seen.map encDot), .sl (q.fences.map encFence), .sl (q.routes.map encRoute), .sl (q.cells.map encCell)], .raw (.map (some mr))] ([.map mr []]++F) fun d G=>d = .tup []/\G = .map mr (entM encLine encRoute (leftK p q [] p.routes.length))::F:=left_dc p q mr [] F
attribute [local irreducible] DW SeqD DV DOp DC DVX DVJ fencedL
theorem pfencedM_dc (se:List TDot) (fe:List TFence) (ce:List TCell) (v3:Value) (n3:Nat) (node epoch:Int) (F:Own):(fe.length<=1000000000)->DC Tryz.prog 32 [.agg [.sl (se.map encDot), .sl (fe.map encFence), .ar v3 n3, .sl (ce.map encCell)], .int .i64 node, .int .i64 epoch] (([]:Own)++F) fun d G=>d = .bool (fencedL fe node epoch)/\G=[]++F:=by
 intro hA
 have hf:=hA
 refine DC.bodyS (n_:=11) (show Tryz.prog.funcs[32]? = some Tryz.f32 by kernel_rfl) rfl rfl (by rfl) ?_
 simp only [env0,List.cons_append,List.nil_append]
 have kw:=ksIs [0,1,2,3,4,5,6]
 have ow:=ownIs []
 repeat' (first
  | refine g_ ?_
  | ((with_reducible refine And.intro ?_ ?_);(exact sv))
  | (refine DW.cond (by rfl) ?_ ?_<;>(first | exact i0_ | (refine ic_ ?_;intro hb)))
  | ((with_reducible refine FVg_cases ?_ ?_)<;>(intro hb;rw [hb];revert hb;(first | exact i0_ | (refine i_ ?_;intro hb))))
  | refine r_ ?_
  | refine k_ ?_
  | (refine q_ (contF_dc _ _ _ _) ?_)
  | refine o_ ?_
  | refine f_ ?_
  | with_reducible intro b)
 all_goals first
 | ((first | exact fin_ | refine finq_ ?_);done)
 | (trace_state;fail)
end
section
section
variable {α β:Type} [DecidableEq α]
theorem updA_of {k:α} {v:β}:∀ {l:List (α×β)} {x:α×β},x∈updA k v l->x.2=v\/x∈l
 | [],x,h=>by simp [updA] at h;exact .inl (by rw [h])
 | y::m,x,h=>by
  unfold updA at h
  split at h
  · rcases List.mem_cons.1 h with rfl | h
    · exact .inl rfl
    · exact .inr (List.mem_cons_of_mem _ h)
  · rcases List.mem_cons.1 h with rfl | h
    · exact .inr (List.mem_cons_self ..)
    · rcases updA_of h with h | h
      · exact .inl h
      · exact .inr (List.mem_cons_of_mem _ h)
end
theorem mem_take_of {α:Type} {l:List α} {k:Nat} {x:α} (h:x∈l.take k):x∈l:=List.mem_of_mem_take h
theorem fold_inv {α β:Type} {P:β->Prop} {f:β->α->β}:∀ {l:List α} {b:β},P b->(∀ b,∀ x∈l,P b->P (f b x))->P (l.foldl f b)
 | [],_,h,_=>h
 | x::l,b,h,hf=>fold_inv (l:=l) (hf b x (List.mem_cons_self ..) h) fun b y hy=>hf b y (List.mem_cons_of_mem _ hy)
theorem byLine_of {ro:List TRoute} {k:Nat} {x:(Int×Int×Str)×TRoute} (h:x∈byLine ro k):x.2∈ro:=by
 unfold byLine at h
 refine (fold_inv (P:=fun L:LMap=>∀ x∈L,x.2∈ro) (f:=fun L r=>updA (r.dot.node,r.dot.epoch,r.filter) r L) (l:=ro.take k) (b:=[]) (fun _ h=>nomatch h) (fun L r hr hL x hx=>?_)) x h
 rcases updA_of hx with e | e
 · rw [e];exact mem_take_of hr
 · exact hL x e
theorem leftS_of {q:TTable} {L:LMap} {r:TRoute} {x:(Int×Int×Str)×TRoute} (h:x∈leftS q L r):x∈L\/x.2=r\/x.2∈q.routes:=by
 unfold leftS at h
 split at h
 · rename_i g hg
   rcases updA_of h with e | e
   · split at e
     · exact .inr (.inr (by rw [e];exact byLine_of (lookA_some hg)))
     · exact .inr (.inl e)
   · exact .inl e
 · split at h
   · exact .inl h
   · rcases updA_of h with e | e
     · exact .inr (.inl e)
     · exact .inl e
theorem leftK_of {p q:TTable} {L:LMap} {k:Nat} {x:(Int×Int×Str)×TRoute} (h:x∈leftK p q L k):x∈L\/x.2∈p.routes\/x.2∈q.routes:=by
 unfold leftK at h
 refine (fold_inv (P:=fun M:LMap=>∀ x∈M,x∈L\/x.2∈p.routes\/x.2∈q.routes) (f:=leftS q) (l:=p.routes.take k) (b:=L) (fun x h=>.inl h) (fun M r hr hM x hx=>?_)) x h
 rcases leftS_of hx with e | e | e
 · exact hM x e
 · exact .inr (.inl (by rw [e];exact mem_take_of hr))
 · exact .inr (.inr e)
theorem leftS_len (q:TTable) (L:LMap) (r:TRoute):(leftS q L r).length<=L.length+1:=by
 unfold leftS
 split
 · exact updA_len _ _ _
 · split
   · omega
   · exact updA_len _ _ _
theorem leftK_len (p q:TTable) (L:LMap):∀ k,k<=p.routes.length->(leftK p q L k).length<=L.length+k
 | 0,_=>Nat.le_refl _
 | k+1,h=>by
  rw [leftK_s (by omega)]
  have:=leftS_len q (leftK p q L k) (p.routes.getD k default)
  have:=leftK_len p q L k (by omega)
  omega
def outK (p q:TTable):LMap:=leftK q p (leftK p q [] p.routes.length) q.routes.length
theorem outK_of {p q:TTable} {x:(Int×Int×Str)×TRoute} (h:x∈outK p q):x.2∈p.routes\/x.2∈q.routes:=by
 rcases leftK_of h with e | e | e
 · rcases leftK_of e with e | e | e
   · exact nomatch e
   · exact .inl e
   · exact .inr e
 · exact .inr e
 · exact .inl e
theorem outK_len (p q:TTable):(outK p q).length<=p.routes.length+q.routes.length:=by
 have h1:=leftK_len p q [] p.routes.length (Nat.le_refl _)
 have h2:=leftK_len q p (leftK p q [] p.routes.length) q.routes.length (Nat.le_refl _)
 unfold outK
 simp only [List.length_nil] at h1
 omega
def liveL (fe:List TFence) (D:LMap):List TRoute:=(D.map (·.2)).filter fun r=>!fencedL fe r.dot.node r.dot.epoch
theorem liveL_0 (fe:List TFence):liveL fe []=[]:=rfl
theorem liveL_y {fe:List TFence} {D:LMap} {x:(Int×Int×Str)×TRoute} (h:fencedL fe x.2.dot.node x.2.dot.epoch=true):liveL fe (D++[x])=liveL fe D:=by
 unfold liveL;rw [List.map_append,List.filter_append];simp [h]
theorem liveL_n {fe:List TFence} {D:LMap} {x:(Int×Int×Str)×TRoute} (h:fencedL fe x.2.dot.node x.2.dot.epoch=false):liveL fe (D++[x])=liveL fe D++[x.2]:=by
 unfold liveL;rw [List.map_append,List.filter_append];simp [h]
theorem liveL_len (fe:List TFence) (D:LMap):(liveL fe D).length<=D.length:=by
 unfold liveL;exact Nat.le_trans (List.length_filter_le _ _) (by simp)
theorem liveL_of {fe:List TFence} {D:LMap} {r:TRoute} (h:r∈liveL fe D):∃ x∈D,x.2=r:=List.mem_map.1 (List.mem_filter.1 h).1
theorem liveL_few {p q:TTable} {fe:List TFence} {D L:LMap} (h:(D++L).Perm (outK p q)):(liveL fe D).length<=p.routes.length+q.routes.length:=by
 have h1:=h.length_eq
 have h2:=outK_len p q
 have h3:=liveL_len fe D
 rw [List.length_append] at h1
 omega
theorem kM_of {p q:TTable}:∀ {k:Nat} {x:Str×TCell},k<=p.cells.length->x∈kM p q k->x.2∈q.cells
 | 0,x,_,h=>by
  have h:x∈byTopic q.cells q.cells.length:=h
  unfold byTopic at h
  refine (fold_inv (P:=fun L:CMap=>∀ x∈L,x.2∈q.cells) (f:=fun L c=>updA c.topic c L) (l:=q.cells.take q.cells.length) (b:=[]) (fun _ h=>nomatch h) (fun L r hr hL x hx=>?_)) x h
  rcases updA_of hx with e | e
  · rw [e];exact mem_take_of hr
  · exact hL x e
 | k+1,x,hk,h=>by
  rw [kM_s (by omega)] at h
  exact kM_of (by omega) (dropA_sub.subset h)
theorem kR_of {p q:TTable}:∀ {k:Nat} {c:TCell},k<=p.cells.length->c∈kR p q k->c∈p.cells\/c∈q.cells
 | 0,c,_,h=>nomatch (show c∈([]:List TCell) from h)
 | k+1,c,hk,h=>by
  have hm:p.cells.getD k default∈p.cells:=getD_mem (by omega)
  unfold kR at h
  rw [keptK_s (by omega),keptS] at h
  simp only at h
  split at h
  · rename_i g hg
    rcases List.mem_append.1 h with h | h
    · exact kR_of (by omega) h
    · rw [List.mem_singleton] at h
      split at h
      · exact .inr (by rw [h];exact kM_of (p:=p) (k:=k) (by omega) (lookA_some hg))
      · exact .inl (by rw [h];exact hm)
  · split at h
    · exact kR_of (by omega) h
    · rcases List.mem_append.1 h with h | h
      · exact kR_of (by omega) h
      · rw [List.mem_singleton] at h
        exact .inl (by rw [h];exact hm)
theorem keptOf_mem {p q:TTable} {ce:List TCell} (h:KeptOf p q ce) {c:TCell} (hc:c∈ce):c∈p.cells\/c∈q.cells:=by
 obtain ⟨⟨D,h1,h2⟩,_⟩:=h
 have:=h2.subset hc
 unfold keptAll at this
 rcases List.mem_append.1 this with e | e
 · exact kR_of (Nat.le_refl _) e
 · obtain ⟨x,hx,rfl⟩:=List.mem_map.1 (List.mem_filter.1 e).1
   exact .inr (kM_of (p:=p) (Nat.le_refl _) (h1.subset hx))
theorem keptOf_len {p q:TTable} {ce:List TCell} (h:KeptOf p q ce):ce.length<=p.cells.length+q.cells.length:=by
 obtain ⟨⟨D,h1,h2⟩,_⟩:=h
 rw [h2.length_eq]
 exact keptAll_len (D:=D) (L:=[]) (by simpa using h1)
structure MergeOf (p q u:TTable):Prop where
 seen:u.seen=joinM p.seen q.seen
 fen:u.fences=fencesK p.fences q.fences q.fences.length
 ro:∃ D:LMap,D.Perm (outK p q)/\u.routes.Perm (liveL u.fences D)
 rs:u.routes.Pairwise fun x y=>rbefore y x=false
 ce:KeptOf p q u.cells
theorem MergeOf.lite {p q u:TTable} {m:Nat} (h:MergeOf p q u) (hp:TR p) (hq:TR q) (h1:Lite m p) (h2:Lite m q):Lite (2 * m+16) u:=by
 have hsp:=h1.s;have hsq:=h2.s;have hrp:=h1.r;have hrq:=h2.r;have hcp:=h1.c;have hcq:=h2.c
 obtain ⟨D,d1,d2⟩:=h.ro
 refine ⟨?_,?_,?_,?_,fun r hr=>?_,fun c hc=>?_,fun c hc=>?_⟩
 · rw [h.seen,<-joinL_end hp.seen hq.seen]
   have:=joinL_len (a:=p.seen) (b:=q.seen) q.seen.length (Nat.le_refl _)
   omega
 · rw [h.fen]
   have:=(fencesK_right (l:=q.fences) hp.fences q.fences.length (Nat.le_refl _)).few
   omega
 · rw [d2.length_eq]
   have:=liveL_few (p:=p) (q:=q) (fe:=u.fences) (D:=D) (L:=[]) (by simpa using d1)
   omega
 · have:=keptOf_len h.ce;omega
 · obtain ⟨x,hx,rfl⟩:=liveL_of (d2.subset hr)
   rcases outK_of (d1.subset hx) with e | e
   · exact h1.rf _ e
   · exact h2.rf _ e
 · rcases keptOf_mem h.ce hc with e | e
   · exact h1.ct _ e
   · exact h2.ct _ e
 · rcases keptOf_mem h.ce hc with e | e
   · exact h1.cp _ e
   · exact h2.cp _ e
theorem routes1 (R:List TRoute) (c:TRoute):cells ((R++[c]).map encRoute)=cells (R.map encRoute)++[.int .i64 c.dot.node, .int .i64 c.dot.epoch, .int .i64 c.dot.n, .str c.filter]:=by
 rw [List.map_append,cells_append];rfl
theorem perm_moveR {A C D:LMap} {x:(Int×Int×Str)×TRoute} {M:LMap} (h:(D++(A++x::C)).Perm M):((D++[x])++(A++C)).Perm M:=by
 refine List.Perm.trans ?_ h
 rw [List.append_assoc]
 exact List.Perm.append_left D (show (x::(A++C)).Perm (A++x::C) from List.perm_middle.symm)
theorem DW.own0P (sz b i:Nat) {P:Program} {n:Nat} {Q:Exit->Env->Own->Prop} {e:Env} {H F:Own} {c:Code} {cs:List V} (hq:Pulled H [.blk b cs] F) (ht:cs.getD i .any = .gs (.slice none 0 0) [])
  (h:DW P n c Q e (.arr sz (.slice none 0 0) [] :: .blk b (cs.set i (.ar (.slice none 0 0) 0))::F)):DW P n c Q e H:=fun a w hs hr=>by
 have hp:H.Perm (.blk b cs::F):=hq
 have x2:=Ext.perm (w:=w) hp
 exact wp_mono (DW.own0B sz b i ht h a w (hs.perm hp) ⟨hr.size,fun u=>x2.rel (hr.slot u)⟩) fun x a1 w1 ⟨hd,e1,H1,s,r,x1,q⟩=>⟨hd,e1,H1,s,r,x2.trans x1,q⟩
end
section
theorem out_fold (p q:TTable):leftK q p (leftK p q [] p.routes.length) q.routes.length=outK p q:=rfl
attribute [local irreducible] DW SeqD DV DOp DC DVX DVJ tableB joinM fencesK outK liveL fencedL
theorem p4_of {m:Nat} {u:TTable} (h:Lite m u) (hm:m<=1000000000:=by decide):u.seen.length<=1000000000/\u.fences.length<=1000000000/\u.routes.length<=1000000000/\u.cells.length<=1000000000/\∀ k,k<u.cells.length->(u.cells.getD k default).payload.length<=1000000000:=⟨Nat.le_trans h.s hm,Nat.le_trans h.f hm,Nat.le_trans h.r hm,Nat.le_trans h.c hm,fun k hk=>h.cp _ (getD_mem hk)⟩
theorem r3_of {m:Nat} {u:TTable} (h:Lite m u) (hm:m<=1000000000:=by decide):(u.seen.length<=1000000000/\u.fences.length<=1000000000/\u.routes.length<=1000000000/\u.cells.length<=1000000000)/\(∀ k,k<u.routes.length->(u.routes.getD k default).filter.length<=2000000)/\(∀ k,k<u.cells.length->(u.cells.getD k default).topic.length<=2000000)/\(∀ k,k<u.cells.length->(u.cells.getD k default).payload.length<=1000000000) :=
 ⟨⟨Nat.le_trans h.s hm,Nat.le_trans h.f hm,Nat.le_trans h.r hm,Nat.le_trans h.c hm⟩,fun k hk=>Nat.le_trans (h.rf _ (getD_mem hk)) (by decide),fun k hk=>Nat.le_trans (h.ct _ (getD_mem hk)) (by decide),fun k hk=>h.cp _ (getD_mem hk)⟩
theorem hF4_of {p q:TTable} {fe:List TFence} {ce:List TCell} (h4:KeptOf p q ce) (h1:Lite 100000000 p) (h2:Lite 100000000 q) (hp:rightB p.seen=true) (hq:rightB q.seen=true) (hf:fe.length<=16):(joinM p.seen q.seen).length<=1000000000/\fe.length<=1000000000/\ce.length<=1000000000/\∀ k,k<ce.length->(ce.getD k default).payload.length<=1000000000:=by
 have a:=h1.s;have b:=h2.s;have c:=h1.c;have d:=h2.c
 have e:=joinL_len (a:=p.seen) (b:=q.seen) q.seen.length (Nat.le_refl _)
 rw [joinL_end hp hq] at e
 have f:=keptOf_len h4
 refine ⟨by omega,by omega,by omega,fun k hk=>?_⟩
 rcases keptOf_mem h4 (getD_mem hk) with g | g
 · exact h1.cp _ g
 · exact h2.cp _ g
theorem pair_at {l:List TFence} (h:FR l) {k:Nat} (hk:k<l.length):pairB (l.getD k default).node (l.getD k default).epoch=true:=h.2 _ (getD_mem hk)
theorem sv_pmerge_dc {p:Prop} (h:p:=by first | exact sv | exact hRp | exact hRq | exact hJ | exact hKk | exact ⟨hF4,hfr,pair_at (tr_iff.1 hq).fences (by omega)⟩ | exact hl1 | exact hl2 | exact hu3 | exact hu4 | exact hP4 | exact hQ4 | exact ⟨rfl,by omega⟩ | (show List.length _<=_;omega) | fail):p:=h
theorem s_pmerge_dc {P Q:Prop} (q:Q) (h:Hid Q->P:=by (intro q;simp (maxSteps:=1000000) (disch:=omega) only [push_cast,↓reduceIte,reduceCtorEq,Nat.reduceAdd,Nat.reduceMul,Nat.reduceLT,Nat.reduceLeDiff,Nat.reduceEqDiff,Nat.reduceSub,Int.reduceToNat,Int.reduceLT,Int.reduceLE,Int.reduceAdd,Int.reduceSub,Int.reduceMul,Int.reduceNeg,Nat.reduceBEq,Int.reduceBEq,Int.reduceBNe,Nat.reduceBNe,Int.reduceEq,encRoute,encFence,route_eta,dot_eta,hp,hq,look_nil,upd_nil,look_str,upd_str,drop_str,opt_bool,opt_int,opt_some,entM_nil,entM_len,look_dot,upd_dot,look_line,upd_line,keyS_63,keyS0_63,zeroD_68,keyS_80,keyS0_80,zeroD_4,keyS_81,keyS0_81,keyS_113,keyS0_113,zeroD_76,entM_app,out_fold];exact q.1)):P:=h ⟨q⟩
section
attribute [local push_cast 2000] encRoute encFence route_eta dot_eta look_nil upd_nil look_str upd_str drop_str opt_bool opt_int opt_some entM_nil entM_len look_dot upd_dot look_line upd_line keyS_63 keyS0_63 zeroD_68 keyS_80 keyS0_80 zeroD_4 keyS_81 keyS0_81 keyS_113 keyS0_113 zeroD_76 entM_app out_fold
theorem pmerge_dc (p q:TTable) (m:Int) (F:Own):(Lite 100000000 p/\Lite 100000000 q/\tabB p=true/\tabB q=true)->DC Tryz.prog 10 [.agg [.sl (p.seen.map encDot), .sl (p.fences.map encFence), .sl (p.routes.map encRoute), .sl (p.cells.map encCell)], .agg [.sl (q.seen.map encDot), .sl (q.fences.map encFence), .sl (q.routes.map encRoute), .sl (q.cells.map encCell)]] ([knF,knA,knM m]++F) fun d G=>∃ u,MergeOf p q u/\((tabB u=true/\d = .agg [.sl (u.seen.map encDot), .sl (u.fences.map encFence), .sl (u.routes.map encRoute), .sl (u.cells.map encCell)])\/(tabB u=false/\d = .agg [.sl (p.seen.map encDot), .sl (p.fences.map encFence), .sl (p.routes.map encRoute), .sl (p.cells.map encCell)]))/\G=[knF,knA,knM m]++F:=by
 intro hA
 obtain ⟨hLp,hLq,hp,hq⟩:=hA
 refine DC.bodyS (n_:=101) (show Tryz.prog.funcs[10]? = some Tryz.f10 by kernel_rfl) rfl rfl (by rfl) ?_
 simp only [env0,out_fold,fencesK_0,liveL_0,List.length_nil,List.map_nil,cells_nil,List.set_cons_succ,List.set_cons_zero,List.cons_append,List.nil_append]
 have kw:=ksIs [0,1,2,3,4,5,6,7,9,10,12,17,25,30,48,49,50,51,71,73,84,96]
 have ow:=ownIs []
 have dw1:=drIs 1 [] [0,1,2,3]
 have rw_:=rsIs [.cell 4 32]
 unfold tabB at hp hq
 have hRp:=r3_of hLp
 have hRq:=r3_of hLq
 have hP4:=p4_of hLp
 have hQ4:=p4_of hLq
 have h1:=hLp.s;have h2:=hLp.f;have h3:=hLp.r;have h4:=hLp.c;have h5:=hLq.s;have h6:=hLq.f;have h7:=hLq.r;have h8:=hLq.c
 have hJ:rightB p.seen=true/\rightB q.seen=true/\p.seen.length<=100000000/\q.seen.length<=100000000:=⟨(tr_iff.1 hp).seen,(tr_iff.1 hq).seen,h1,h5⟩
 have hKk:p.cells.length<=100000000/\q.cells.length<=100000000/\p.seen.length<=100000000/\q.seen.length<=100000000:=⟨h4,h8,h1,h5⟩
 have hl1:p.routes.length<=100000000/\q.routes.length<=100000000/\q.seen.length<=100000000:=⟨h3,h7,h5⟩
 have hl2:q.routes.length<=100000000/\p.routes.length<=100000000/\p.seen.length<=100000000:=⟨h7,h3,h1⟩
 repeat' (first
  | ((with_reducible apply DW.frzRO);(repeat (with_reducible first | apply OnA.here | apply OnA.next));refine ⟨rfl,by decide,(by intro y hy;obtain ⟨x,_,rfl⟩:=List.mem_map.1 hy;rfl),?_,?_,?_⟩;(focus (repeat (first | exact CvE.nil | apply CvE.cons (Cv.hit _) | apply CvE.cons (Cv.rfl _))));(focus ((repeat (first | apply CvO.blk _ (by repeat (first | exact CvL.nil | apply CvL.cons (Cv.hit _) | apply CvL.cons (Cv.rfl _))) | apply CvO.keep | exact CvO.rfl_ _ _ _)))))
  | ((fail_if_success (have zz:=hlen));(have hlen:=hpm'.length_eq);(rw [<-hlen]);(have hmo:MergeOf p q ⟨joinM p.seen q.seen,fencesK p.fences q.fences q.fences.length,l',ce⟩:=⟨rfl,rfl,⟨D,by simpa using hpm,hpm'⟩,hsr,hke⟩);(have hul:=hmo.lite (tr_iff.1 hp) (tr_iff.1 hq) hLp hLq);(have hu4:=p4_of hul);(have hu3:=r3_of hul))
  | ((refine DOp.rangem_ rfl rfl ?_);(repeat (with_reducible first | refine OnM.here ?_ | refine OnM.next ?_));(refine And.intro (by rw [ty_63]) ?_);(with_reducible intro rI);refine s_pmerge_dc ?_)
  | ((refine DOp.entrym_ rfl rfl ?_);(repeat (with_reducible first | refine OnG.here ?_ | refine OnG.next ?_));(refine ⟨_,rfl,?_⟩);refine s_pmerge_dc ?_)
  | ((refine DOp.nextm_ (t:=0) rfl rfl ?_);(repeat (with_reducible first | refine OnG.here ?_ | refine OnG.next ?_));(refine both_ent (fun A x C hL=>?_) (fun hL=>?_))<;>(subst hL)<;>(refine s_pmerge_dc ?_))
  | ((with_reducible apply DW.frzO2 23 v);(repeat (with_reducible first | refine OnA.here ?_ | refine OnA.next ?_));refine ⟨rfl,by decide,(by intro y hy;obtain ⟨x,_,rfl⟩:=List.mem_map.1 hy;rfl),?_,?_,?_⟩;(focus (repeat (first | exact CvE.nil | apply CvE.cons (Cv.hit _) | apply CvE.cons (Cv.rfl _))));(focus ((repeat (first | apply CvO.blk _ (by repeat (first | exact CvL.nil | apply CvL.cons (Cv.hit _) | apply CvL.cons (Cv.rfl _))) | apply CvO.keep | exact CvO.rfl_ _ _ _)))))
  | ((with_reducible refine DW.loopB 1 (X:=Nat) (fun x=>x<=q.fences.length) (fun x=>[(2, .sp [.sl (p.seen.map encDot), .sl (p.fences.map encFence), .sl (p.routes.map encRoute), .sl (p.cells.map encCell)]),(3, .sp [.sl (q.seen.map encDot), .sl (q.fences.map encFence), .sl (q.routes.map encRoute), .sl (q.cells.map encCell)]),(4, .raw (.pointer (some ⟨b4,0,none⟩))),(7, .raw (.pointer (some ⟨b7,0,none⟩))),(48, .sl (q.fences.map encFence)),(49, .int .i64 q.fences.length),(50, .int .i64 x)]) (fun x=>[.blk b7 [.sl ((joinM p.seen q.seen).map encDot), .sl ((fencesK p.fences q.fences x).map encFence), .gs (.slice none 0 0) [], .sl (ce.map encCell)], .blk b4 [.gs (.slice none 0 0) [], .gs (.slice none 0 0) [], .gs (.slice none 0 0) [], .gs (.slice none 0 0) []],knF,knA,knM m]) (fun x=>q.fences.length - x) (0) ?_ ?_ ?_);exact (Nat.zero_le _);(simp [Sub,get,keepL,fencesK_0]<;>fail);(try simp only [out_fold,fencesK_0,liveL_0,List.length_nil,List.map_nil,cells_nil,List.set_cons_succ,List.set_cons_zero,List.cons_append,List.nil_append]);refine pl_ ?_;intro k hk;(try simp only [out_fold,fencesK_0,liveL_0,List.length_nil,List.map_nil,cells_nil,List.set_cons_succ,List.set_cons_zero,List.cons_append,List.nil_append]);(try simp only at hk);have hfr:=fencesK_right (l:=q.fences) (tr_iff.1 hp).fences k hk;have hfw:=hfr.few;have hF4:=hF4_of hke hLp hLq hJ.1 hJ.2.1 hfw)
  | ((have hkl:k=q.fences.length:=by omega);(subst hkl);(refine DW.own0P 4 b7 2 (by ((with_reducible repeat (first | exact Pulled.nil | apply Pulled.cons | exact Took.here | apply Took.next | fail))<;>fail)) rfl ?_);(simp only [List.set_cons_succ,List.set_cons_zero]);((with_reducible refine DW.loopB 3 (X:=LMap×LMap×Value×VM) (fun x=>(x.2.1++x.1).Perm (outK p q)) (fun x=>[(2, .sp [.sl (p.seen.map encDot), .sl (p.fences.map encFence), .sl (p.routes.map encRoute), .sl (p.cells.map encCell)]),(4, .raw (.pointer (some ⟨b4,0,none⟩))),(7, .raw (.pointer (some ⟨b7,0,none⟩))),(71, .raw (.pointer (some ⟨rI,0,none⟩)))]) (fun x=>[.arr 4 x.2.2.1 (cells ((liveL (fencesK p.fences q.fences q.fences.length) x.2.1).map encRoute)), .blk b7 [.sl ((joinM p.seen q.seen).map encDot), .sl ((fencesK p.fences q.fences q.fences.length).map encFence), .ar x.2.2.1 (liveL (fencesK p.fences q.fences q.fences.length) x.2.1).length, .sl (ce.map encCell)], .miter rI b1 (entM encLine encRoute (outK p q)) (entM encLine encRoute x.1) x.2.2.2, .blk b4 [.gs (.slice none 0 0) [], .gs (.slice none 0 0) [], .gs (.slice none 0 0) [], .gs (.slice none 0 0) []],knF,knA,knM m]) (fun x=>x.1.length) ((outK p q,[], .slice none 0 0,[])) ?_ ?_ ?_);exact (List.Perm.refl _);(simp [Sub,get,keepL,liveL_0]<;>fail);(try simp only [out_fold,fencesK_0,liveL_0,List.length_nil,List.map_nil,cells_nil,List.set_cons_succ,List.set_cons_zero,List.cons_append,List.nil_append]);refine pl_ ?_;intro ⟨Lf,D,v,cur⟩ hpm;(try simp only [out_fold,fencesK_0,liveL_0,List.length_nil,List.map_nil,cells_nil,List.set_cons_succ,List.set_cons_zero,List.cons_append,List.nil_append]);(try simp only at hpm);have hka:=liveL_few (fe:=fencesK p.fences q.fences q.fences.length) hpm))
  | refine g_ ?_
  | ((with_reducible refine And.intro ?_ ?_);(exact sv_pmerge_dc))
  | (refine DW.cond (by rfl) ?_ ?_<;>(first | exact i0_ | (intro hb;(try simp only [↓reduceCtorEq,not_true_eq_false,not_false_eq_true,hbs,Int.reduceBEq,Int.reduceBNe,Int.reduceEq] at hb);(try refine s_pmerge_dc ?_))))
  | ((with_reducible first | refine FVg_cases ?_ ?_ | refine FDg_cases ?_ ?_)<;>(intro hb;rw [hb];revert hb;(first | exact i0_ | (intro hb;(try simp only [↓reduceCtorEq,not_true_eq_false,not_false_eq_true,hbs,Int.reduceBEq,Int.reduceBNe,Int.reduceEq] at hb);(try refine s_pmerge_dc ?_)))))
  | ((refine Both.imp ?_ ?_)<;>(first | exact i0_ | (intro hb;(try simp only [↓reduceCtorEq,not_true_eq_false,not_false_eq_true,hbs,Int.reduceBEq,Int.reduceBNe,Int.reduceEq] at hb);(try refine s_pmerge_dc ?_))))
  | ((first | refine rn_ ?_ | refine dn_ ?_ | refine kn_ ?_)<;>(refine s_pmerge_dc ?_))
  | ((refine dm_ ?_);(first | ((first | refine v_ (ptright_dc _ _ _ _ _ _) ?_ (ha:=by exact sv_pmerge_dc) (hk:=fun q=>q.1) | refine v_ (pjoin_dc _ _ _) ?_ (ha:=by exact sv_pmerge_dc) (hk:=fun q=>q.1) | refine v_ (fclone_dc _ _) ?_ (ha:=by exact sv_pmerge_dc) (hk:=fun q=>q.1) | refine v_ (fenceN_dc _ _ _ _ _ _) ?_ (ha:=by exact sv_pmerge_dc) (hk:=fun q=>q.1) | refine v_ (pfencedM_dc _ _ _ _ _ _ _ _) ?_ (ha:=by exact sv_pmerge_dc) (hk:=fun q=>q.1));refine s_pmerge_dc ?_)))
  | ((refine von_ ?_);refine s_pmerge_dc ?_)
  | ((first | ((with_reducible refine DW.drawX (id:=8) [0,1,2,3,4,5,6,7,9,10,12,17,25,30,48,49,50,51,71,73,84,96] [4,7,10,13] 12 32 (some 7) (by kernel_rfl) (by kernel_rfl) (by kernel_rfl) (by kernel_rfl) rfl (by kernel_rfl) ?_ ?_)) | (refine DVX.fl_ rfl rfl rfl ?_) | (refine DVX.f_ rfl rfl (by decide) ?_) | ((refine DVX.mv_ rfl rfl (by decide) ?_);intro X;(try simp only [List.cons_append,List.nil_append]);(first | (refine qq_ (ptright_dc _ _ _ _ _ _) ?_ (ha:=by exact sv_pmerge_dc);rintro d rfl) | (refine qq_ (pjoin_dc _ _ _) ?_ (ha:=by exact sv_pmerge_dc);rintro d rfl) | (refine qq_ (fclone_dc _ _) ?_ (ha:=by exact sv_pmerge_dc);rintro d rfl) | (refine p_ (keptF_dc _ _ _) ?_ (ha:=by exact sv_pmerge_dc);rintro d H1 ⟨ce,hke,rfl,rfl⟩) | (refine qq_ (fenceN_dc _ _ _ _ _ _) ?_ (ha:=by exact sv_pmerge_dc);rintro d rfl) | (refine p_ (left0_dc _ _ _ _) ?_ (ha:=by exact sv_pmerge_dc);rintro d H1 ⟨rfl,rfl⟩) | (refine p_ (left_dc _ _ _ _ _) ?_ (ha:=by exact sv_pmerge_dc);rintro d H1 ⟨rfl,rfl⟩) | (refine qq_ (pfencedM_dc _ _ _ _ _ _ _ _) ?_ (ha:=by exact sv_pmerge_dc);rintro d rfl) | (refine p_ (sortM_dc _ _ _ _) ?_ (ha:=by exact sv_pmerge_dc);rintro d H1 ⟨l',⟨hpm',hsr⟩,rfl,rfl⟩) | (refine p_ (copy_dc _ _ _ _ _) ?_ (ha:=by exact sv_pmerge_dc);rintro d H1 ⟨v1,v2,v3,v4,rfl,rfl⟩) | ((refine DOp.load_ rfl rfl ?_);(repeat (with_reducible first | refine OnB.here ?_ | refine OnB.mid ?_ | refine OnB.next ?_));(refine And.intro (by simp (maxSteps:=1000000) (disch:=omega) only [push_cast,↓reduceIte,reduceCtorEq,Nat.reduceAdd,Nat.reduceMul,Nat.reduceLT,Nat.reduceLeDiff,Nat.reduceEqDiff,Nat.reduceSub,Int.reduceToNat,Int.reduceLT,Int.reduceLE,Int.reduceAdd,Int.reduceSub,Int.reduceMul,Int.reduceNeg,Nat.reduceBEq,Int.reduceBEq,Int.reduceBNe,Nat.reduceBNe,Int.reduceEq,encRoute,encFence,route_eta,dot_eta,hp,hq,look_nil,upd_nil,look_str,upd_str,drop_str,opt_bool,opt_int,opt_some,entM_nil,entM_len,look_dot,upd_dot,look_line,upd_line,keyS_63,keyS0_63,zeroD_68,keyS_80,keyS0_80,zeroD_4,keyS_81,keyS0_81,keyS_113,keyS0_113,zeroD_76,entM_app,out_fold]) ?_)));(try simp only [List.cons_append,List.nil_append]);(repeat (with_reducible first | refine PXK.base ?_ | refine PXK.none ?_ | refine PXK.cons ?_))) | (refine DOp.lenm_ rfl rfl ?_;(repeat (with_reducible first | refine OnM.here ?_ | refine OnM.next ?_))) | (refine DOp.rangem_ rfl rfl ?_;(repeat (with_reducible first | refine OnM.here ?_ | refine OnM.next ?_))) | (refine DOp.nextm_ (t:=0) rfl rfl ?_;(repeat (with_reducible first | refine OnG.here ?_ | refine OnG.next ?_))) | (refine DOp.entrym_ rfl rfl ?_;(repeat (with_reducible first | refine OnG.here ?_ | refine OnG.next ?_))))<;>(simp (maxSteps:=1000000) (disch:=omega) only [push_cast,↓reduceIte,reduceCtorEq,Nat.reduceAdd,Nat.reduceMul,Nat.reduceLT,Nat.reduceLeDiff,Nat.reduceEqDiff,Nat.reduceSub,Int.reduceToNat,Int.reduceLT,Int.reduceLE,Int.reduceAdd,Int.reduceSub,Int.reduceMul,Int.reduceNeg,Nat.reduceBEq,Int.reduceBEq,Int.reduceBNe,Nat.reduceBNe,Int.reduceEq,encRoute,encFence,route_eta,dot_eta,hp,hq,look_nil,upd_nil,look_str,upd_str,drop_str,opt_bool,opt_int,opt_some,entM_nil,entM_len,look_dot,upd_dot,look_line,upd_line,keyS_63,keyS0_63,zeroD_68,keyS_80,keyS0_80,zeroD_4,keyS_81,keyS0_81,keyS_113,keyS0_113,zeroD_76,entM_app,out_fold]))
  | ((first | refine q_ (ptright_dc _ _ _ _ _ _) ?_ (ha:=by exact sv_pmerge_dc) (hk:=fun q=>q.1) | refine q_ (pjoin_dc _ _ _) ?_ (ha:=by exact sv_pmerge_dc) (hk:=fun q=>q.1) | refine q_ (fclone_dc _ _) ?_ (ha:=by exact sv_pmerge_dc) (hk:=fun q=>q.1) | refine q_ (fenceN_dc _ _ _ _ _ _) ?_ (ha:=by exact sv_pmerge_dc) (hk:=fun q=>q.1) | refine q_ (pfencedM_dc _ _ _ _ _ _ _ _) ?_ (ha:=by exact sv_pmerge_dc) (hk:=fun q=>q.1));refine s_pmerge_dc ?_)
  | (refine p_ (keptF_dc _ _ _) ?_ (ha:=by exact sv_pmerge_dc);rintro d H1 ⟨ce,hke,rfl,rfl⟩<;>refine s_pmerge_dc ?_)
  | (refine p_ (left0_dc _ _ _ _) ?_ (ha:=by exact sv_pmerge_dc);rintro d H1 ⟨rfl,rfl⟩<;>refine s_pmerge_dc ?_)
  | (refine p_ (left_dc _ _ _ _ _) ?_ (ha:=by exact sv_pmerge_dc);rintro d H1 ⟨rfl,rfl⟩<;>refine s_pmerge_dc ?_)
  | (refine p_ (sortM_dc _ _ _ _) ?_ (ha:=by exact sv_pmerge_dc);rintro d H1 ⟨l',⟨hpm',hsr⟩,rfl,rfl⟩<;>refine s_pmerge_dc ?_)
  | (refine p_ (copy_dc _ _ _ _ _) ?_ (ha:=by exact sv_pmerge_dc);rintro d H1 ⟨v1,v2,v3,v4,rfl,rfl⟩<;>refine s_pmerge_dc ?_)
  | ((refine on_ ?_);refine s_pmerge_dc ?_)
  | refine f_ ?_
  | refine vm_ ?_
  | ((fail_if_success (have zz:=b4));with_reducible intro b4)
  | ((fail_if_success (have zz:=b7));with_reducible intro b7)
  | ((fail_if_success (have zz:=b1));with_reducible intro b1)
  | with_reducible intro b)
 all_goals first
 | (refine ⟨k+1,by omega,by omega,by simp [Sub,get],?_⟩;(rw [fencesK_s (by omega)]);(exact sub_);done)
 | ((have e:liveL (fencesK p.fences q.fences q.fences.length) (D++[x])=liveL (fencesK p.fences q.fences q.fences.length) D:=liveL_y (by assumption))
    refine ⟨(A++C,D++[x],v,[(encLine x.1, .agg [.int .i64 x.2.dot.node, .int .i64 x.2.dot.epoch, .int .i64 x.2.dot.n, .str x.2.filter])]),perm_moveR hpm,by (try simp only);simp only [List.length_append,List.length_cons];omega,?_,?_⟩;((try dsimp only);simp [Sub,get]);((try dsimp only);rw [e];(try rw [routes1]);(try simp only [List.length_append,List.length_cons,List.length_nil,Nat.zero_add]);(exact sub_));done)
 | ((have e:liveL (fencesK p.fences q.fences q.fences.length) (D++[x])=liveL (fencesK p.fences q.fences q.fences.length) D++[x.2]:=liveL_n (by assumption))
    refine ⟨(A++C,D++[x],b,[(encLine x.1, .agg [.int .i64 x.2.dot.node, .int .i64 x.2.dot.epoch, .int .i64 x.2.dot.n, .str x.2.filter])]),perm_moveR hpm,by (try simp only);simp only [List.length_append,List.length_cons];omega,?_,?_⟩;((try dsimp only);simp [Sub,get]);((try dsimp only);rw [e];(try rw [routes1]);(try simp only [List.length_append,List.length_cons,List.length_nil,Nat.zero_add]);(exact sub_));done)
 | ((refine ⟨_,_,?_,⟨_,hmo, .inl ⟨hb,rfl⟩,rfl⟩,?_⟩;rotate_left;(exact sub_);refine le.agg ?_;(repeat (first | exact Les.nil | refine Les.cons le.rfl_ ?_ | refine Les.cons (le.gs rfl) ?_ | refine Les.cons (le.gs List.map_nil.symm) ?_ | refine Les.cons (le.agg ?_) ?_));done))
 | ((refine ⟨_,_,?_,⟨_,hmo, .inr ⟨hb,rfl⟩,rfl⟩,?_⟩;rotate_left;(exact sub_);refine le.agg ?_;(repeat (first | exact Les.nil | refine Les.cons le.rfl_ ?_ | refine Les.cons (le.gs rfl) ?_ | refine Les.cons (le.gs List.map_nil.symm) ?_ | refine Les.cons (le.agg ?_) ?_));done))
 | (trace_state;fail)
end
end
end Go.Proofs.YtifdpbghkccaoaaGreatDoor
