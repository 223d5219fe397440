/- Sums of texts, buckets, where two lists differ. -/
import Derived.Test.YtbmbcjmgjdnlnaaGreatDoorEn
import Derived.KernelRfl
import Derived.Test.YtbmbcjmgjdnlnaaGreatDoorTbx
namespace Go.Proofs.YtbmbcjmgjdnlnaaGreatDoor
open Go.RowKit
set_option linter.unusedSimpArgs false
set_option linter.unusedVariables false
set_option linter.unusedSectionVars false
set_option maxHeartbeats 4000000
set_option maxRecDepth 100000
section
attribute [local irreducible] DW SeqD DV DOp DC DVX
def fnvN (h:Int) (c:UInt8):Int:=IntKind.u64.wrap (IntKind.u64.wrap (BitVec.ofInt IntKind.u64.bits h^^^BitVec.ofInt IntKind.u64.bits (c.toNat:Int)).toNat * 1099511628211)
def fnvV (s:List UInt8):Int:=s.foldl fnvN 14695981039346656037
def bucketV (s:List UInt8):Int:=(fnvV s).tmod 8
theorem wrap_b (n:Int):0<=IntKind.u64.wrap n/\IntKind.u64.wrap n<=18446744073709551615:=by simp [IntKind.wrap,IntKind.bits,IntKind.signed];omega
theorem fnvN_b (h:Int) (c:UInt8):0<=fnvN h c/\fnvN h c<=18446744073709551615:=wrap_b _
theorem fold_b:∀ (s:List UInt8) (h:Int),0<=h/\h<=18446744073709551615->0<=s.foldl fnvN h/\s.foldl fnvN h<=18446744073709551615
 | [],_,hh=>hh
 | c::s,h,_=>fold_b s _ (fnvN_b h c)
theorem fnv_b (s:List UInt8):0<=fnvV s/\fnvV s<=18446744073709551615:=fold_b s _ (by decide)
theorem fnv_snoc (s:List UInt8) (c:UInt8):fnvV (s++[c])=fnvN (fnvV s) c:=by simp [fnvV]
theorem take_snoc (s:List UInt8) (k:Nat) (h:k<s.length):s.take (k+1)=s.take k++[s.getD k 0]:=by
 rw [List.take_add_one];simp [List.getD_eq_getElem?_getD,h]
theorem fnv_next (s:List UInt8) (k:Nat) (h:k<s.length):fnvV (s.take (k+1))=fnvN (fnvV (s.take k)) (s.getD k 0):=by rw [take_snoc s k h,fnv_snoc]
theorem wrapU8 (b:UInt8):IntKind.u64.wrap (b.toNat:Int)=(b.toNat:Int):=wrap_u64 _ (by omega) (by have:=b.toNat_lt;omega)
theorem bucket_b (s:List UInt8):0<=bucketV s/\bucketV s<8:=⟨Int.tmod_nonneg 8 (fnv_b s).1,Int.tmod_lt_of_pos _ (by decide)⟩
theorem fnv0:fnvV []=14695981039346656037:=rfl
def differK (a b:List Int) (k:Nat):List Int:=((List.range k).filter fun i=>decide (a.length≠b.length)||a.getD i default != b.getD i default).map fun (i:Nat)=>(i:Int)
theorem differ_more (a b:List Int) (k:Nat):differK a b (k+1)=differK a b k++if (decide (a.length≠b.length)||a.getD k default != b.getD k default)=true then [(k:Int)] else []:=by
 unfold differK
 rw [List.range_succ,List.filter_append,List.map_append]
 congr 1
 cases h:(decide (a.length≠b.length)||a.getD k default != b.getD k default) with
 | true=>simp only [List.filter_cons,h,if_true,List.filter_nil,List.map_cons,List.map_nil]
 | false=>simp only [List.filter_cons,h,List.filter_nil,Bool.false_eq_true,if_false,List.map_nil]
theorem differ_yes (a b:List Int) (k:Nat) (h:a.length≠b.length\/a.getD k default≠b.getD k default):differK a b (k+1)=differK a b k++[(k:Int)]:=by
 rw [differ_more,if_pos]
 rw [Bool.or_eq_true]
 rcases h with h | h
 · exact .inl (decide_eq_true h)
 · exact .inr (bne_iff_ne.2 h)
theorem differ_no (a b:List Int) (k:Nat) (h:a.length=b.length) (h':a.getD k default=b.getD k default):differK a b (k+1)=differK a b k:=by
 rw [differ_more,if_neg,List.append_nil]
 rw [Bool.or_eq_true]
 rintro (h1 | h1)
 · exact of_decide_eq_true h1 h
 · exact bne_iff_ne.1 h1 h'
theorem differ_len (a b:List Int) (k:Nat):(differK a b k).length<=k:=by
 unfold differK;rw [List.length_map];exact Nat.le_trans (List.length_filter_le _ _) (by simp)
def encI (x:Int):V:=.int .i64 x
def encU (x:Int):V:=.int .u64 x
theorem getD_drop' (l:List V) (n i:Nat) (d:V):(l.drop n).getD i d=l.getD (n+i) d:=by simp [List.getD_eq_getElem?_getD,List.getElem?_drop]
section
attribute [local push_cast 2000] u8 wrapU8
theorem fnv_dc (s:List UInt8) (F:Own):(s.length<=1000000000000)->DC Tryz.prog 55 [.str s] (([]:Own)++F) fun d G=>d = .int .u64 (fnvV s)/\G=[]++F:=by
 intro hA
 have hs:=hA
 refine DC.bodyS (n_:=19) (show Tryz.prog.funcs[55]? = some Tryz.f55 by kernel_rfl) rfl rfl (by rfl) ?_
 simp only [env0,List.cons_append,List.nil_append]
 have kw:=ksIs [0,2,3,4,6,7,8]
 have ow:=ownIs []
 repeat' (first
  | ((with_reducible refine DW.loopB 0 (X:=Nat) (fun x=>x<=s.length) (fun x=>[(0, .str s),(3, .int .u64 (fnvV (s.take x))),(6, .int .i64 s.length),(7, .int .i64 x)]) (fun x=>([]:Own)) (fun x=>s.length - x) (0) ?_ ?_ ?_);exact (Nat.zero_le _);(simp [Sub,get,keepL,fnv0]<;>fail);(try simp only [List.cons_append,List.nil_append]);refine pl_ ?_;intro k hk;(try simp only [List.cons_append,List.nil_append]))
  | refine g_ ?_
  | ((with_reducible refine And.intro ?_ ?_);(exact sv))
  | (refine DW.cond (by rfl) ?_ ?_<;>(first | exact i0_ | (refine ic_ ?_;intro hb)))
  | ((with_reducible refine FVg_cases ?_ ?_)<;>(intro hb;rw [hb];revert hb;(first | exact i0_ | (refine i_ ?_;intro hb))))
  | refine r_ ?_
  | refine k_ ?_
  | refine o_ ?_
  | refine f_ ?_
  | with_reducible intro b)
 all_goals first
 | (refine ⟨k+1,?_,?_,?_,?_⟩;(((try simp only);omega));(((try simp only);omega));(simp [Sub,get,fnv_next s k (by omega),fnvN]<;>(fail));(try dsimp only);(exact sub_))
 | ((first | exact fin_ | refine finq_ ?_);rw [List.take_of_length_le (by omega)])
end
theorem bucket_dc (s:List UInt8) (F:Own):(s.length<=1000000000000)->DC Tryz.prog 33 [.str s] (([]:Own)++F) fun d G=>d = .int .i64 (bucketV s)/\G=[]++F:=by
 intro hA
 have hs:=hA
 refine DC.bodyS (n_:=7) (show Tryz.prog.funcs[33]? = some Tryz.f33 by kernel_rfl) rfl rfl (by rfl) ?_
 simp only [env0,List.cons_append,List.nil_append]
 have kw:=ksIs [0,2]
 have ow:=ownIs []
 have hb:=bucket_b s;have hf:=fnv_b s;unfold bucketV at hb
 repeat' (first
  | refine g_ ?_
  | ((with_reducible refine And.intro ?_ ?_);(exact sv))
  | (refine DW.cond (by rfl) ?_ ?_<;>(first | exact i0_ | (refine ic_ ?_;intro hb)))
  | ((with_reducible refine FVg_cases ?_ ?_)<;>(intro hb;rw [hb];revert hb;(first | exact i0_ | (refine i_ ?_;intro hb))))
  | refine r_ ?_
  | refine k_ ?_
  | (refine q_ (fnv_dc _ _) ?_)
  | refine o_ ?_
  | refine f_ ?_
  | with_reducible intro b)
 (first | exact fin_ | refine finq_ ?_)
 all_goals rfl
section
attribute [local push_cast 2000] encU encI
theorem differ_dc (la lb:List Int) (F:Own):(la.length<=1000000000000/\lb.length<=1000000000000)->DC Tryz.prog 31 [.sl (la.map encU), .sl (lb.map encU)] (([]:Own)++F) fun d G=>d = .sl ((differK la lb (max la.length lb.length)).map encI)/\G=[]++F:=by
 intro hA
 obtain ⟨ha,hb⟩:=hA
 refine DC.bodyS (n_:=37) (show Tryz.prog.funcs[31]? = some Tryz.f31 by kernel_rfl) rfl rfl (by rfl) ?_
 simp only [env0,List.cons_append,List.nil_append]
 have kw:=ksIs [0,1,4,5,6,11,12,13,30]
 have ow:=ownIs []
 have dw5:=drIs 5 [] [9,13]
 refine DW.tail0 1 ?_
 repeat' (first
  | ((with_reducible refine DW.loopB 0 (X:=Nat×Value) (fun x=>x.1<=max la.length lb.length) (fun x=>[(0, .sl (la.map encU)),(1, .sl (lb.map encU)),(5, .gs x.2 ((differK la lb x.1).map encI)),(11, .int .i64 (max (la.length:Int) (lb.length:Int))),(12, .int .i64 x.1)]) (fun x=>.tail 1 x.2::([]:Own)) (fun x=>max la.length lb.length - x.1) ((0, .slice none 0 0)) ?_ ?_ ?_);exact (Nat.zero_le _);(simp [Sub,get,keepL,differK,List.range_zero]<;>fail);(try simp only [List.cons_append,List.nil_append]);refine pl_ ?_;intro ⟨k,v⟩ hx;(try simp only [List.cons_append,List.nil_append]);have hlk:=differ_len la lb k;simp only at hx)
  | refine g_ ?_
  | ((with_reducible refine And.intro ?_ ?_);(exact sv))
  | (refine DW.cond (by rfl) ?_ ?_<;>(first | exact i0_ | (refine ic_ ?_;intro hb)))
  | ((with_reducible first | refine FVg_cases ?_ ?_ | refine FDg_cases ?_ ?_)<;>(intro hb;rw [hb];revert hb;(first | exact i0_ | (refine i_ ?_;intro hb))))
  | refine r_ ?_
  | refine d_ ?_
  | refine k_ ?_
  | refine vo_ ?_
  | refine o_ ?_
  | refine f_ ?_
  | refine vm_ ?_
  | with_reducible intro b)
 all_goals first
 | (have hC:=differ_yes la lb k (by first | (left;omega) | (right;assumption))
    refine ⟨(k+1,b),?_,?_,?_,?_⟩;(((try simp only);omega));(((try simp only);omega));(simp [Sub,get,hC,encI]<;>(fail));(try dsimp only);(exact sub_);done)
 | (have hC:=differ_no la lb k (by omega) (by first | assumption | omega)
    refine ⟨(k+1,v),?_,?_,?_,?_⟩;(((try simp only);omega));(((try simp only);omega));(simp [Sub,get,hC,encI]<;>(fail));(try dsimp only);(exact sub_);done)
 | (have hk:k=max la.length lb.length:=by omega
    subst hk
    (first | exact fin_ | refine finq_ ?_))
end
end
section
def addAt (L:List Str) (k:Nat) (x:Str):List Str:=L.set k (L.getD k []++x)
theorem addAt_len (L:List Str) (k:Nat) (x:Str):(addAt L k x).length=L.length:=List.length_set
theorem addAt_at {L:List Str} {k i:Nat} {x:Str} (h:i<L.length):(addAt L k x).getD i []=if k=i then L.getD i []++x else L.getD i []:=by
 unfold addAt
 split
 · rename_i e;subst e
   rw [List.getD_eq_getElem?_getD,List.getElem?_set_self h];rfl
 · rename_i e
   rw [List.getD_eq_getElem?_getD,List.getElem?_set_ne e,<-List.getD_eq_getElem?_getD]
def layAll {α:Type} (key:α->Nat) (line:α->Str) (xs:List α) (L:List Str):List Str:=xs.foldl (fun L x=>addAt L (key x) (line x)) L
section
variable {α:Type} {key:α->Nat} {line:α->Str}
theorem layAll_len:∀ (xs:List α) (L:List Str),(layAll key line xs L).length=L.length
 | [],_=>rfl
 | x::xs,L=>(layAll_len xs (addAt L (key x) (line x))).trans (addAt_len ..)
theorem layAll_at {i:Nat}:∀ (xs:List α) (L:List Str),i<L.length->(layAll key line xs L).getD i []=L.getD i []++(xs.filter fun x=>key x==i).flatMap line
 | [],L,_=>by simp [layAll]
 | x::xs,L,h=>by
  have e:layAll key line (x::xs) L=layAll key line xs (addAt L (key x) (line x)):=rfl
  rw [e,layAll_at xs _ (by rw [addAt_len];exact h),addAt_at h]
  by_cases hk:key x=i
  · rw [if_pos hk,List.filter_cons_of_pos (by simpa using hk),List.flatMap_cons,List.append_assoc]
  · rw [if_neg hk,List.filter_cons_of_neg (by simpa using hk)]
theorem layAll_take {xs:List α} {k:Nat} [Inhabited α] (h:k<xs.length) (L:List Str):layAll key line (xs.take (k+1)) L=addAt (layAll key line (xs.take k) L) (key (xs.getD k default)) (line (xs.getD k default)):=foldl_more _ _ h
end
section
variable (rl:TRoute->Str) (cl:TCell->Str) (dl:TDot->Str) (fl:TFence->Str)
def kR (r:TRoute):Nat:=(bucketV r.filter).toNat
def kC (c:TCell):Nat:=(bucketV c.topic).toNat
def bufsL (t:TTable):List Str:=layAll (fun _=>9) fl t.fences (layAll (fun _=>8) dl t.seen (layAll kC cl t.cells (layAll kR rl t.routes (List.replicate 10 []))))
variable {rl cl dl fl}
theorem bufs_len (t:TTable):(bufsL rl cl dl fl t).length=10:=by unfold bufsL;rw [layAll_len,layAll_len,layAll_len,layAll_len];rfl
theorem bufs_at (t:TTable) {i:Nat} (h:i<10):(bufsL rl cl dl fl t).getD i []=(t.routes.filter fun r=>kR r==i).flatMap rl++(t.cells.filter fun c=>kC c==i).flatMap cl++(t.seen.filter fun _=>8==i).flatMap dl++(t.fences.filter fun _=>9==i).flatMap fl:=by
 have h0:(List.replicate 10 ([]:Str)).getD i []=[]:=by
  rw [List.getD_eq_getElem?_getD,List.getElem?_replicate];split<;>rfl
 unfold bufsL
 rw [layAll_at _ _ (by rw [layAll_len,layAll_len,layAll_len];exact h),layAll_at _ _ (by rw [layAll_len,layAll_len];exact h),layAll_at _ _ (by rw [layAll_len];exact h),layAll_at _ _ (by exact h),h0,List.nil_append]
theorem filter_same {α:Type} {p:α->Bool} {l:List α} (h:∀ x∈l,p x=false):l.filter p=[]:=List.filter_eq_nil_iff.2 fun x hx=>by rw [h x hx];simp
theorem bufs_same {t u:TTable} {i:Nat} (h:i<10) (hr:(t.routes.filter fun r=>kR r==i)=(u.routes.filter fun r=>kR r==i)) (hc:(t.cells.filter fun c=>kC c==i)=(u.cells.filter fun c=>kC c==i)) (hs:i≠8\/t.seen=u.seen) (hf:i≠9\/t.fences=u.fences):(bufsL rl cl dl fl t).getD i []=(bufsL rl cl dl fl u).getD i []:=by
 have e1:(t.seen.filter fun _=>8==i)=(u.seen.filter fun _=>8==i):=by
  rcases hs with hs | hs
  · rw [filter_same (fun _ _=>by simpa using Ne.symm hs),filter_same (fun _ _=>by simpa using Ne.symm hs)]
  · rw [hs]
 have e2:(t.fences.filter fun _=>9==i)=(u.fences.filter fun _=>9==i):=by
  rcases hf with hs | hs
  · rw [filter_same (fun _ _=>by simpa using Ne.symm hs),filter_same (fun _ _=>by simpa using Ne.symm hs)]
  · rw [hs]
 rw [bufs_at t h,bufs_at u h,hr,hc,e1,e2]
end
theorem filter_ins {α:Type} {q:α->Bool} (l:List α) (p:Nat) {x:α} (h:q x=false):(l.take p++x::l.drop p).filter q=l.filter q:=by
 rw [List.filter_append,List.filter_cons_of_neg (by rw [h];simp),<-List.filter_append,List.take_append_drop]
theorem filter_put {α:Type} [Inhabited α] {q:α->Bool} {l:List α} {p:Nat} (hp:p<l.length) {x:α} (h:q x=false) (h':q (l.getD p default)=false):(l.take p++x::l.drop (p+1)).filter q=l.filter q:=by
 conv=>rhs;rw [splitAt_ l hp]
 rw [List.filter_append,List.filter_append,List.filter_cons_of_neg (by rw [h];simp),List.filter_cons_of_neg (by rw [h'];simp)]
theorem filter_in {α:Type} {q p:α->Bool} (l:List α) (h:∀ x∈l,p x=false->q x=false):(l.filter p).filter q=l.filter q:=by
 rw [List.filter_filter]
 refine List.filter_congr fun x hx=>?_
 cases hp:p x with
 | true=>simp
 | false=>rw [h x hx hp];rfl
theorem bucket_ne {f:Str} {i:Nat} (h:(i:Int)≠bucketV f):((bucketV f).toNat==i)=false:=by
 have:=bucket_b f
 simp only [beq_eq_false_iff_ne]
 omega
theorem add_routes (t:TTable) (n e:Int) (f:Str) {i:Nat} (h:(i:Int)≠bucketV f):((routeAddM t n e f).routes.filter fun r=>kR r==i)=(t.routes.filter fun r=>kR r==i):=by
 unfold routeAddM
 split
 · show (insR _ _).filter _=_
   unfold insR
   rw [filter_ins _ _ (by exact bucket_ne h)]
   unfold withoutR
   refine filter_in _ fun r _ hr=>?_
   have ho:=(own_iff.1 (by simpa using hr)).2.2
   unfold kR
   rw [ho];exact bucket_ne h
 · rfl
theorem add_rest (t:TTable) (n e:Int) (f:Str):(routeAddM t n e f).cells=t.cells/\(routeAddM t n e f).fences=t.fences:=by unfold routeAddM;split<;>exact ⟨rfl,rfl⟩
theorem put_cells (t:TTable) (n e:Int) (s:TStamp) (m1 m2:Str) (m3:Int) {i:Nat} (h:(i:Int)≠bucketV m1):((cellPutM t n e s m1 m2 m3).cells.filter fun r=>kC r==i)=(t.cells.filter fun r=>kC r==i):=by
 unfold cellPutM
 split
 · show (cellInM _ _).filter _=_
   have hc:∀ d,(kC (putC d s.l s.c s.node m1 m2 m3)==i)=false:=fun d=>bucket_ne h
   unfold cellInM
   split
   · rename_i hp
     split
     · rfl
     · refine filter_put hp.1 (hc _) ?_
       unfold kC
       rw [hp.2];exact bucket_ne h
   · exact filter_ins _ _ (hc _)
 · rfl
theorem put_rest (t:TTable) (n e:Int) (s:TStamp) (m1 m2:Str) (m3:Int):(cellPutM t n e s m1 m2 m3).routes=t.routes/\(cellPutM t n e s m1 m2 m3).fences=t.fences:=by unfold cellPutM;split<;>exact ⟨rfl,rfl⟩
theorem differ_mem {a b:List Int} {k:Nat} {x:Int} (h:x∈differK a b k):∃ i,i<k/\x=(i:Int)/\(a.length≠b.length\/a.getD i default≠b.getD i default):=by
 unfold differK at h
 obtain ⟨i,hi,rfl⟩:=List.mem_map.1 h
 obtain ⟨h1,h2⟩:=List.mem_filter.1 hi
 refine ⟨i,List.mem_range.1 h1,rfl,?_⟩
 rw [Bool.or_eq_true] at h2
 rcases h2 with h2 | h2
 · exact .inl (of_decide_eq_true h2)
 · exact .inr (bne_iff_ne.1 h2)
theorem differ_rise (a b:List Int) (k:Nat):(differK a b k).Pairwise (fun x y=>x≠y):=by
 unfold differK
 rw [List.pairwise_map]
 exact (List.Pairwise.sublist List.filter_sublist List.pairwise_lt_range).imp fun {x y} h=>by omega
theorem two_only {l:List Int} (h:l.Pairwise (fun x y=>x≠y)) {p q:Int} (hm:∀ x∈l,x=p\/x=q):l.length<=2:=by
 match l,h,hm with
 | [],_,_=>simp
 | [_],_,_=>simp
 | [_,_],_,_=>simp
 | x::y::z::l,h,hm =>
  exfalso
  have a:=hm x (by simp);have b:=hm y (by simp);have c:=hm z (by simp)
  simp only [List.pairwise_cons,List.mem_cons,forall_eq_or_imp] at h
  have h1:=h.1.1;have h2:=h.1.2.1;have h3:=h.2.1.1
  rcases a with rfl | rfl<;>rcases b with rfl | rfl<;>rcases c with rfl | rfl<;>simp_all
end
end Go.Proofs.YtbmbcjmgjdnlnaaGreatDoor
