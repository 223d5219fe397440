/- Messages, flights, sessions: what a session's functions do to it, plain; and as parts of what is owned. No statement of the program. -/
import Derived.Test.YtgekknefphagbaaGreatDoorNsx
import Derived.Test.YtgekknefphagbaaGreatDoorPv3x
import Derived.KernelRfl
import Derived.Test.YtgekknefphagbaaGreatDoorWax
namespace Go.Proofs.YtgekknefphagbaaGreatDoor
open Go.RowKit
set_option linter.unusedSimpArgs false
set_option linter.unusedVariables false
set_option linter.unusedSectionVars false
set_option maxRecDepth 100000
section
structure Mg where
 topic:YS
 pay:YS
 qos:Int
 retain:Bool
 deriving Inhabited
structure MgN (m:Mg):Prop where
 topic:m.topic.length<=100000
 pay:m.pay.length<=100000
def encM (m:Mg):V:=.agg [.str m.topic, .sl (m.pay.map u8), .int .i64 m.qos, .bool m.retain]
structure Fl where
 m:Mg
 id:Int
 sent:Int
 rcv:Bool
 deriving Inhabited
def encF (f:Fl):V:=.agg [.str f.m.topic, .sl (f.m.pay.map u8), .int .i64 f.m.qos, .bool f.m.retain, .int .i64 f.id, .int .i64 f.sent, .bool f.rcv]
def pubM (m:Mg) (id:Int) (dup:Bool):Pk:=⟨3,dup,m.retain,m.qos,id,m.topic,m.pay,0,[],false,0,false,[],[],0,false,false,false,[],[],false,0,[],[]⟩
def ackP (kind id:Int):Pk:=⟨kind,false,false,0,id,[],[],0,[],false,0,false,[],[],0,false,false,false,[],[],false,0,[],[]⟩
def zal (z:Int):Int:=min (max z (-1099511627776)) 1099511627776
theorem zdj (z:Int) : -1099511627776<=zal z/\zal z<=1099511627776:=by unfold zal;omega
def cand (t:Int) (k:Nat):Int:=(t+k)%65535+1
theorem zee (t:Int) (k:Nat):1<=cand t k/\cand t k<=65535:=by unfold cand;omega
theorem zq1 {t:Int} (h:0<=t):t.tmod 65535+1=cand t 0:=by unfold cand;rw [Int.tmod_eq_emod_of_nonneg h];simp
theorem cand_s (t:Int) (k:Nat):(cand t k).tmod 65535+1=cand t (k+1):=by
 rw [Int.tmod_eq_emod_of_nonneg (by have:=zee t k;omega)];unfold cand;omega
theorem zo8 {t:Int} {i j:Nat} (hi:i<65535) (hj:j<65535) (h:cand t i=cand t j):i=j:=by unfold cand at h;omega
theorem zjS {α:Type} [DecidableEq α]:∀ {l l':List α},l.Nodup->(∀ x∈l,x∈l')->l.length<=l'.length
 | [],_,_,_=>Nat.zero_le _
 | x::l,l',hn,hs=>by
  rw [List.nodup_cons] at hn
  obtain ⟨a,b,rfl⟩:=List.append_of_mem (hs x List.mem_cons_self)
  have:=zjS (l':=a++b) hn.2 fun y hy=>by
   have h1:=hs y (List.mem_cons_of_mem _ hy)
   rcases List.mem_append.1 h1 with h1 | h1
   · exact List.mem_append_left _ h1
   · rcases List.mem_cons.1 h1 with rfl | h1
     · exact absurd hy hn.1
     · exact List.mem_append_right _ h1
  simp only [List.length_append,List.length_cons] at this ⊢
  omega
theorem ziJ {us:List Int} {t:Int} {k:Nat} (hk:k<65535) (h:∀ j,j<=k->cand t j∈us):k+1<=us.length:=by
 have:=zjS (l:=(List.range (k+1)).map (cand t)) (l':=us) (by
  rw [List.Nodup,List.pairwise_map]
  refine List.Pairwise.imp_of_mem ?_ List.nodup_range
  intro a b ha hb hne e
  rw [List.mem_range] at ha hb
  exact hne (zo8 (by omega) (by omega) e)) fun x hx=>by
  obtain ⟨j,hj,rfl⟩:=List.mem_map.1 hx
  exact h j (by rw [List.mem_range] at hj;omega)
 simpa using this
def zdh (us:List Int) (t:Int):Nat->Nat->Int
 | 0,k=>cand t k
 | n+1,k=>if cand t k∈us then zdh us t n (k+1) else cand t k
theorem zl0 {us:List Int} {t:Int} {k:Nat} (h:cand t k ∉ us):∀ n,zdh us t n k=cand t k
 | 0=>rfl
 | n+1=>by unfold zdh;rw [if_neg h]
theorem zmK {us:List Int} {t:Int} {k n:Nat} (h:cand t k∈us) (hn:0<n):zdh us t n k=zdh us t (n - 1) (k+1):=by
 obtain ⟨m,rfl⟩:∃ m,n=m+1:=⟨n - 1,by omega⟩
 conv=>lhs;unfold zdh
 rw [if_pos h];rfl
def zbk (us:List Int) (t:Int):Int:=zdh us t us.length 0
theorem zki {us:List Int} {t:Int} (hl:us.length<65535):∀ n k,k+n=us.length->(∀ j,j<k->cand t j∈us)->zdh us t n k ∉ us/\1<=zdh us t n k/\zdh us t n k<=65535
 | 0,k,hk,h=>⟨fun hm=>by
  have:=ziJ (us:=us) (t:=t) (k:=k) (by omega) fun j hj=>by
   rcases Nat.lt_or_eq_of_le hj with h1 | rfl
   · exact h j h1
   · exact hm
  omega,zee t k⟩
 | n+1,k,hk,h=>by
  unfold zdh
  split
  · rename_i hm
    exact zki hl n (k+1) (by omega) fun j hj=>by
     rcases Nat.lt_or_eq_of_le (Nat.le_of_lt_succ hj) with h1 | rfl
     · exact h j h1
     · exact hm
  · rename_i hm;exact ⟨hm,zee t k⟩
theorem zkZ {us:List Int} (t:Int) (hl:us.length<65535):zbk us t ∉ us/\1<=zbk us t/\zbk us t<=65535:=zki hl _ 0 (Nat.zero_add _) fun j hj=>absurd hj (Nat.not_lt_zero _)
def usI (us:List Int):List (Int×Bool):=us.map fun i=>(i,true)
theorem zj4 (us:List Int):(usI us).length=us.length:=List.length_map ..
theorem zib (us:List Int) (i:Int):(lookA i (usI us)).getD false=decide (i∈us):=by
 induction us with
 | nil=>rfl
 | cons a us ih =>
  show (if i=a then some true else lookA i (usI us)).getD false=_
  by_cases h:i=a
  · rw [if_pos h];simp [h]
  · rw [if_neg h,ih];simp [h]
theorem zfg (us:List Int) (i:Int):(lookA i (usI us)).isSome=decide (i∈us):=by
 induction us with
 | nil=>rfl
 | cons a us ih =>
  show (if i=a then some true else lookA i (usI us)).isSome=_
  by_cases h:i=a
  · rw [if_pos h];simp [h]
  · rw [if_neg h,ih];simp [h]
theorem zjs (us:List Int) (i:Int):updA i true (usI us)=usI (if i∈us then us else us++[i]):=by
 induction us with
 | nil=>rfl
 | cons a us ih =>
  show (if i=a then (a,true)::usI us else (a,true)::updA i true (usI us))=_
  by_cases h:i=a
  · rw [if_pos h,if_pos (by rw [h];exact List.mem_cons_self)];rfl
  · rw [if_neg h,ih]
    by_cases h2:i∈us
    · rw [if_pos h2,if_pos (List.mem_cons_of_mem _ h2)];rfl
    · rw [if_neg h2,if_neg (fun e=>by rcases List.mem_cons.1 e with e | e;exact h e;exact h2 e)];rfl
theorem zhC (us:List Int) (i:Int):zaz i (usI us)=usI (us.erase i):=by
 induction us with
 | nil=>rfl
 | cons a us ih =>
  show (if i=a then usI us else (a,true)::zaz i (usI us))=_
  by_cases h:i=a
  · rw [if_pos h,h,List.erase_cons_head]
  · rw [if_neg h,ih,List.erase_cons_tail (by simpa using Ne.symm h)];rfl
structure SA where
 name:YS
 subs:List (YS×Int)
 taken:Int
 fly:List Fl
 q:List Mg
 got:List Int
 deriving Inhabited
def idsF (l:List Fl):List Int:=l.map (·.id)
@[simp] theorem zfI (l:List Fl):(idsF l).length=l.length:=List.length_map ..
structure FlOK (f:Fl):Prop where
 id:1<=f.id/\f.id<=65535
 sent : -1099511627776<=f.sent/\f.sent<=1099511627776
 m:MgN f.m
structure SAOK (a:SA):Prop where
 name:a.name.length<=100000
 fly:a.fly.length<=4
 ids:(idsF a.fly).Nodup
 flo:∀ f∈a.fly,FlOK f
 q:a.q.length<=8
 qm:∀ m∈a.q,MgN m
 taken:0<=a.taken/\a.taken<=65535
 subs:(a.subs.map (·.1)).Nodup
 got:a.got.Nodup
def zgW (a:SA):Int:=zbk (idsF a.fly) a.taken
def zfC (now:Int) (m:Mg) (a:SA):SA:={ a with taken:=zgW a,fly:=a.fly++[⟨m,zgW a,zal now,false⟩] }
def zb0 (now:Int):List Mg->SA->SA
 | [],a=>{ a with q:=[] }
 | m::q,a=>if a.fly.length<4 then zb0 now q (zfC now m a) else { a with q:=m::q }
def zb8 (now:Int):List Mg->SA->List Pk
 | [],a=>[]
 | m::q,a=>if a.fly.length<4 then pubM m (zgW a) false::zb8 now q (zfC now m a) else []
def offA (i:Nat) (a:SA):SA:={ a with fly:=a.fly.eraseIdx i }
def zmQ (i:Nat) (now:Int) (a:SA):SA:=zb0 now a.q (offA i a)
def agF (now ago:Int) (f:Fl):Fl:=if zal now - f.sent<ago then f else { f with sent:=zal now }
def agP (now ago:Int) (f:Fl):List Pk:=if zal now - f.sent<ago then [] else if f.rcv=true then [ackP 6 f.id] else [pubM f.m f.id true]
def zcI (now ago:Int) (a:SA):SA:={ a with fly:=a.fly.map (agF now ago) }
def zb4 (now ago:Int) (l:List Fl):List Pk:=l.flatMap (agP now ago)
def zb6 (now:Int) (a:SA):SA:=zb0 now a.q (zcI now (-4398046511104) a)
def zap (now:Int) (a:SA):List Pk:=zb4 now (-4398046511104) a.fly++zb8 now a.q (zcI now (-4398046511104) a)
def subA (fl:YS) (q:Int) (a:SA):SA:={ a with subs:=updA fl q a.subs }
theorem SAOK.us {a:SA} (h:SAOK a):(idsF a.fly).length<65535:=by rw [zfI];have:=h.fly;omega
section
variable {a:SA} (h:SAOK a)
include h
theorem SAOK.rise {now:Int} {m:Mg} (hm:MgN m) (hl:a.fly.length<4):SAOK (zfC now m a):=by
 have hk:=zkZ a.taken h.us
 refine ⟨h.name,?_,?_,?_,h.q,h.qm,⟨?_,hk.2.2⟩,h.subs,h.got⟩
 · simp only [zfC,List.length_append,List.length_cons,List.length_nil];omega
 · simp only [zfC,idsF,List.map_append,List.map_cons,List.map_nil]
   rw [List.nodup_append]
   refine ⟨h.ids,by simp,fun x hx y hy e=>?_⟩
   simp only [List.mem_cons,List.not_mem_nil,or_false] at hy
   subst hy;subst e;exact hk.1 hx
 · intro f hf
   simp only [zfC,List.mem_append,List.mem_cons,List.not_mem_nil,or_false] at hf
   rcases hf with hf | rfl
   · exact h.flo f hf
   · exact ⟨hk.2,zdj _,hm⟩
 · show 0<=zgW a
   have:=hk.2.1
   unfold zgW;omega
omit h in
theorem SAOK.drain (now:Int):∀ {q:List Mg} {a:SA},SAOK a->q.length<=8->(∀ m∈q,MgN m)->SAOK (zb0 now q a)
 | [],a,h,_,_=>⟨h.name,h.fly,h.ids,h.flo,Nat.zero_le _,(fun _ h=>nomatch h),h.taken,h.subs,h.got⟩
 | m::q,a,h,hl,hm=>by
  unfold zb0
  split
  · rename_i hf
    exact SAOK.drain now (h.rise (hm m List.mem_cons_self) hf) (by simp only [List.length_cons] at hl;omega) fun x hx=>hm x (List.mem_cons_of_mem _ hx)
  · exact ⟨h.name,h.fly,h.ids,h.flo,hl,hm,h.taken,h.subs,h.got⟩
theorem SAOK.off (i:Nat):SAOK (offA i a):=by
 refine ⟨h.name,Nat.le_trans (List.length_eraseIdx_le ..) h.fly,?_,fun f hf=>h.flo f (List.mem_of_mem_eraseIdx hf),h.q,h.qm,h.taken,h.subs,h.got⟩
 exact h.ids.sublist ((List.eraseIdx_sublist ..).map _)
theorem SAOK.done (i:Nat) (now:Int):SAOK (zmQ i now a):=SAOK.drain now (h.off i) h.q h.qm
theorem SAOK.again (now ago:Int):SAOK (zcI now ago a):=by
 refine ⟨h.name,by simp only [zcI,List.length_map];exact h.fly,?_,fun f hf=>?_,h.q,h.qm,h.taken,h.subs,h.got⟩
 · have e:idsF (zcI now ago a).fly=idsF a.fly:=by
    simp only [zcI,idsF,List.map_map]
    refine List.map_congr_left fun f _=>?_
    simp only [Function.comp,agF];split<;>rfl
   rw [e];exact h.ids
 · obtain ⟨g,hg,rfl⟩:=List.mem_map.1 hf
   have:=h.flo g hg
   unfold agF
   split
   · exact this
   · exact ⟨this.id,zdj _,this.m⟩
theorem SAOK.resume (now:Int):SAOK (zb6 now a):=SAOK.drain now (h.again now _) h.q h.qm
theorem SAOK.sub (fl:YS) (q:Int):SAOK (subA fl q a):=⟨h.name,h.fly,h.ids,h.flo,h.q,h.qm,h.taken,zeY h.subs,h.got⟩
end
def newA (name:YS):SA:=⟨name,[],0,[],[],[]⟩
theorem zav {name:YS} (h:name.length<=100000):SAOK (newA name):=⟨h,Nat.zero_le _,List.nodup_nil,(fun _ h=>nomatch h),Nat.zero_le _,(fun _ h=>nomatch h),⟨Int.le_refl 0,show (0:Int)<=65535 by decide⟩,List.nodup_nil,List.nodup_nil⟩
structure SAQ (a:SA):Prop where
 fly:∀ f∈a.fly,1<=f.m.qos
 q:∀ m∈a.q,1<=m.qos
theorem SAQ.rise {a:SA} (h:SAQ a) {now:Int} {m:Mg} (hm:1<=m.qos):SAQ (zfC now m a):=⟨fun f hf=>by
 simp only [zfC,List.mem_append,List.mem_cons,List.not_mem_nil,or_false] at hf
 rcases hf with hf | rfl
 · exact h.fly f hf
 · exact hm,h.q⟩
theorem SAQ.drain (now:Int):∀ {q:List Mg} {a:SA},SAQ a->(∀ m∈q,1<=m.qos)->SAQ (zb0 now q a)
 | [],a,h,_=>⟨h.fly,fun _ h=>nomatch h⟩
 | m::q,a,h,hm=>by
  unfold zb0
  split
  · exact SAQ.drain now (h.rise (hm m List.mem_cons_self)) fun x hx=>hm x (List.mem_cons_of_mem _ hx)
  · exact ⟨h.fly,hm⟩
section
variable {a:SA} (h:SAQ a)
include h
theorem SAQ.off (i:Nat):SAQ (offA i a):=⟨fun f hf=>h.fly f (List.mem_of_mem_eraseIdx hf),h.q⟩
theorem SAQ.done (i:Nat) (now:Int):SAQ (zmQ i now a):=SAQ.drain now (h.off i) h.q
theorem SAQ.again (now ago:Int):SAQ (zcI now ago a):=⟨fun f hf=>by
 obtain ⟨g,hg,rfl⟩:=List.mem_map.1 hf
 have:=h.fly g hg
 unfold agF
 split
 · exact this
 · exact this,h.q⟩
theorem SAQ.resume (now:Int):SAQ (zb6 now a):=SAQ.drain now (h.again now _) h.q
theorem SAQ.sub (fl:YS) (q:Int):SAQ (subA fl q a):=⟨h.fly,h.q⟩
end
theorem zd7 (name:YS):SAQ (newA name):=⟨(fun _ h=>nomatch h),fun _ h=>nomatch h⟩
structure SN where
 b:Nat
 sm:Nat
 ib:Nat
 um:Nat
 qb:Nat
 gm:Nat
 fv:Value
 qv:Value
 lost:Int
 a:SA
 deriving Inhabited
def SN.cs (x:SN):List V:=[.str x.a.name, .raw (.map (some x.sm)), .raw (.pointer (some ⟨x.ib,0,none⟩)), .ar x.fv x.a.fly.length, .raw (.pointer (some ⟨x.qb,0,none⟩)), .raw (.map (some x.gm))]
abbrev ownI (ib um:Nat) (us:List Int) (t:Int):Own:=[.blk ib [.raw (.map (some um)), .int .i64 65535, .int .i64 t], .map um (entM (V.int .i64) V.bool (usI us))]
abbrev ownQ (qb:Nat) (qv:Value) (q:List Mg) (lost:Int):Own:=[.blk qb [.gs qv (q.map encM), .int .i64 8, .int .i64 lost], .tail 4 qv]
def SN.own (x:SN):Own:=.blk x.b x.cs :: .map x.sm (entM V.str (V.int .i64) x.a.subs) :: .arr 7 x.fv (cells (x.a.fly.map encF)) :: .map x.gm (entM (V.int .i64) V.bool (usI x.a.got))::(ownI x.ib x.um (idsF x.a.fly) x.a.taken++ownQ x.qb x.qv x.a.q x.lost)
end
section
set_option maxHeartbeats 4000000
theorem zmA:mapT Tryz.prog 89=some ([2],false):=by kernel_rfl
theorem zbr {β:Type} {ev:β->V} (a:Int) (l:List (_×β)):KeyS Tryz.prog 89 (.int .i64 a) (entM (V.int .i64) ev l)=True:=eq_true (zeb (intE .i64) (a) l zmA)
theorem zaP (a:Int):KeyS Tryz.prog 89 (.int .i64 a) []=True:=eq_true (zeQ (intE .i64) (a) zmA)
theorem zaU:zf8 Tryz.prog 96 = .raw (.pointer none):=by kernel_rfl
theorem znZ:mapT Tryz.prog 90=some ([3],false):=by kernel_rfl
theorem zbt {β:Type} {ev:β->V} (a:Str) (l:List (_×β)):KeyS Tryz.prog 90 (.str a) (entM V.str ev l)=True:=eq_true (zeb strE (a) l znZ)
theorem zaO (a:Str):KeyS Tryz.prog 90 (.str a) []=True:=eq_true (zeQ strE (a) znZ)
theorem za9:zf8 Tryz.prog 100 = .raw (.pointer none):=by kernel_rfl
theorem zkN:mapT Tryz.prog 145=some ([2],false):=by kernel_rfl
theorem zaS {β:Type} {ev:β->V} (a:Int) (l:List (_×β)):KeyS Tryz.prog 145 (.int .i64 a) (entM (V.int .i64) ev l)=True:=eq_true (zeb (intE .i64) (a) l zkN)
theorem zaA (a:Int):KeyS Tryz.prog 145 (.int .i64 a) []=True:=eq_true (zeQ (intE .i64) (a) zkN)
theorem zbq:zf8 Tryz.prog 4 = .bool false:=by kernel_rfl
theorem zkA:mapT Tryz.prog 172=some ([3],false):=by kernel_rfl
theorem zaK {β:Type} {ev:β->V} (a:Str) (l:List (_×β)):KeyS Tryz.prog 172 (.str a) (entM V.str ev l)=True:=eq_true (zeb strE (a) l zkA)
theorem zaB (a:Str):KeyS Tryz.prog 172 (.str a) []=True:=eq_true (zeQ strE (a) zkA)
theorem zbo:zf8 Tryz.prog 3 = .int .i64 0:=by kernel_rfl
theorem zkS:mapT Tryz.prog 229=some ([3],false):=by kernel_rfl
theorem zaR {β:Type} {ev:β->V} (a:Str) (l:List (_×β)):KeyS Tryz.prog 229 (.str a) (entM V.str ev l)=True:=eq_true (zeb strE (a) l zkS)
theorem za8 (a:Str):KeyS Tryz.prog 229 (.str a) []=True:=eq_true (zeQ strE (a) zkS)
theorem za6:zf8 Tryz.prog 162 = .raw (.pointer none):=by kernel_rfl
abbrev VM:=List (V×V)
theorem zbm {α β:Type} (f:α->β) (x:α):(some x).map f=some (f x):=rfl
theorem zbl {α β:Type} (f:α->β):(none:Option α).map f=none:=rfl
theorem zb5 (a:Str) (c:Nat) (l:List (Str×Nat)):updV (.str a) (.raw (.pointer (some ⟨c,0,none⟩))) (entM V.str pv l)=entM V.str pv (updA a c l):=zbj (ev:=pv) a c l
theorem zeJ (a:Str) (c:Int) (l:List (Str×Int)):updV (.str a) (.int .i64 c) (entM V.str (V.int .i64) l)=entM V.str (V.int .i64) (updA a c l):=zbj (ev:=V.int .i64) a c l
theorem zqq (t:Nat) (y:Nd) (F:Own):ownT t ⟨y.b,[y],[]⟩++F = .blk t [.raw (.pointer (some ⟨y.b,0,none⟩)), .int .i64 0]::(y.own++F):=by
 show Ent.blk t _::(ownH [y]++F)=_
 rw [ziS];rfl
attribute [local irreducible] DW SeqD DV DOp DC DVX Nd.own ownH ownT
attribute [local push_cast 2000] zaM zbp zaN zbj zaQ zaL zbu zaT zaD zaJ zbr zaP zaU zbt zaO za9 zaS zaA zbq zaK zaB zbo zaR za8 za6
section
theorem zn9  (F:Own):(True)->DC Tryz.prog 80 [] (([]:Own)++F) fun d G=>∃ y:Nd,d = .raw (.pointer (some ⟨y.b,0,none⟩))/\(y.next=[]/\y.keys=[])/\G=y.own++F:=by
 intro hA
 refine DC.bodyS (n_:=5) (show Tryz.prog.funcs[80]? = some Tryz.f80 by kernel_rfl) rfl rfl (by rfl) ?_
 simp only [env0,List.cons_append,List.nil_append]
 have kw:=ksIs [0]
 have ow:=zai [4]
 repeat' (first
  | refine g_ ?_
  | ((with_reducible refine And.intro ?_ ?_);(exact sv))
  | (refine DW.cond (by rfl) ?_ ?_<;>(first | exact i0_ | (refine ic_ ?_;intro hb)))
  | ((with_reducible refine zaa ?_ ?_)<;>(intro hb;rw [hb];revert hb;(first | exact i0_ | (refine i_ ?_;intro hb))))
  | refine r_ ?_
  | refine k_ ?_
  | refine o_ ?_
  | refine f_ ?_
  | ((fail_if_success (have zz:=b1));with_reducible intro b1)
  | ((fail_if_success (have zz:=b2));with_reducible intro b2)
  | ((fail_if_success (have zz:=b3));with_reducible intro b3)
  | with_reducible intro b)
 all_goals first
 | (refine ⟨_,_,le.rfl_,⟨⟨b3,b1,b2,[],[]⟩,rfl,⟨rfl,rfl⟩,rfl⟩,?_⟩;(unfold Nd.own;simp only [zaD,List.cons_append,List.nil_append]);(exact sub_);done)
 | (trace_state;fail)
end
theorem new_dc  (F:Own):(True)->DC Tryz.prog 34 [] (([]:Own)++F) fun d G=>∃ (t:Nat) (s:TS),d = .raw (.pointer (some ⟨t,0,none⟩))/\(TOK s/\s.L=[])/\G=ownT t s++F:=by
 intro hA
 refine DC.bodyS (n_:=4) (show Tryz.prog.funcs[34]? = some Tryz.f34 by kernel_rfl) rfl rfl (by rfl) ?_
 simp only [env0,List.append_assoc,List.cons_append,List.nil_append]
 have kw:=ksIs [0]
 have ow:=zai [3]
 repeat' (first
  | refine g_ ?_
  | ((with_reducible refine And.intro ?_ ?_);(exact sv))
  | (refine DW.cond (by rfl) ?_ ?_<;>(first | exact i0_ | (refine ic_ ?_;intro hb)))
  | ((with_reducible refine zaa ?_ ?_)<;>(intro hb;rw [hb];revert hb;(first | exact i0_ | (refine i_ ?_;intro hb))))
  | refine r_ ?_
  | refine k_ ?_
  | (refine p_ (zn9 _) ?_;rintro d H1 ⟨y,rfl,⟨hy1,hy2⟩,rfl⟩<;>refine s_ ?_)
  | refine o_ ?_
  | refine f_ ?_
  | ((fail_if_success (have zz:=b1));with_reducible intro b1)
  | with_reducible intro b)
 all_goals first
 | (refine ⟨_,_,le.rfl_,⟨b1,⟨y.b,[y],[]⟩,rfl,⟨⟨?_,List.nodup_nil,(fun _ h=>nomatch h),(fun _ h=>nomatch h)⟩,rfl⟩,rfl⟩,?_⟩;(focus (rw [mOf_nil];obtain ⟨yb,yn,yk,y1,y2⟩:=y;subst hy1;subst hy2;exact tri_new yb yn yk));(rw [zqq]);(exact sub_);done)
 | (trace_state;fail)
end
section
set_option maxHeartbeats 4000000
open Classical in
noncomputable def zjH (p q:Pk):Bool:=decide (p=q)
open Classical in
theorem sameM_t {p q:Pk} (h:p=q):zjH p q=true:=by unfold zjH;exact decide_eq_true h
end
section
set_option maxHeartbeats 4000000
abbrev IM:=List (Str×Int)
abbrev zoB (l:IM):Prop:=(l.map (·.1)).Nodup
section
variable {A C o:IM} {y:Str×Int} (hn:zoB (A++y::C))
include hn
end
attribute [local irreducible] DW SeqD DV DOp DC DVX Nd.own ownH ownT
section
attribute [local push_cast 2000] zeJ ze8
end
end
end Go.Proofs.YtgekknefphagbaaGreatDoor
