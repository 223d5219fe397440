/- What is laid down is read back, as it was. -/
import Derived.Test.YtbmbcjmgjdnlnaaGreatDoorDmx
import Derived.Test.YtbmbcjmgjdnlnaaGreatDoorFm5x
import Derived.KernelRfl
import Derived.Test.YtbmbcjmgjdnlnaaGreatDoorLex
namespace Go.Proofs.YtbmbcjmgjdnlnaaGreatDoor
open Go.RowKit
set_option linter.unusedSimpArgs false
set_option linter.unusedVariables false
set_option linter.unusedSectionVars false
set_option maxHeartbeats 4000000
set_option maxRecDepth 100000
section
def i64 (x:Int):Prop:=-9223372036854775808<=x/\x<=9223372036854775807
structure InD (d:TDot):Prop where
 a:i64 d.node
 b:i64 d.epoch
 c:i64 d.n
structure InC (x:TCell):Prop where
 d:InD x.dot
 l:i64 x.stamp.l
 c:i64 x.stamp.c
 n:i64 x.stamp.node
 q:i64 x.qos
structure InT (t:TTable):Prop where
 s:∀ d∈t.seen,InD d
 f:∀ x∈t.fences,i64 x.node/\i64 x.epoch
 r:∀ r∈t.routes,InD r.dot
 c:∀ c∈t.cells,InC c
structure InF (f:TFrame):Prop where
 u:∀ x∈f.sums,0<=x/\x<=18446744073709551615
 s:∀ d∈f.seen,InD d
 t:InT f.tab
theorem valL_leK:∀ (k:Nat) (x:Int),0<=x->x<256 ^ k->valL (leK k x)=x
 | 0,x,h0,h1=>by
  have e:(256:Int) ^ 0=1:=rfl
  have:x=0:=by omega
  subst this;rfl
 | k+1,x,h0,h1=>by
  rw [Int.pow_succ] at h1
  rw [leK_cons]
  show ((byteI x).toNat:Int)+256 * valL (leK k (x.fdiv 256))=x
  rw [Int.fdiv_eq_ediv_of_nonneg _ (by decide),valL_leK k (x / 256) (by omega) (by omega)]
  have:((byteI x).toNat:Int)=x%256:=by
   unfold byteI
   rw [UInt8.toNat_ofNat']
   omega
  omega
theorem wrap_back {x:Int} (h:i64 x):IntKind.i64.wrap (IntKind.u64.wrap x)=x:=by
 obtain ⟨h1,h2⟩:=h
 simp only [IntKind.wrap,IntKind.bits,IntKind.signed]
 simp
 omega
theorem u64_b (x:Int):0<=IntKind.u64.wrap x/\IntKind.u64.wrap x<=18446744073709551615:=by
 simp only [IntKind.wrap,IntKind.bits,IntKind.signed]
 simp
 omega
theorem numR_back {x:Int} (h:0<=x/\x<=18446744073709551615) (r:Str) (k:Bool):numR ⟨leK 8 x++r,k⟩=(x,⟨r,k⟩):=by
 have e:(256:Int) ^ 8=18446744073709551616:=by decide
 unfold numR
 rw [if_pos (by simp only [List.length_append,leK_len];omega)]
 simp only [List.take_left' (leK_len 8 x),List.drop_left' (leK_len 8 x)]
 rw [valL_leK 8 x h.1 (by omega)]
theorem nums_cons (x:Int) (l:List Int):numsL (x::l)=leK 8 (IntKind.u64.wrap x)++numsL l:=by simp [numsL]
theorem intR_back {x:Int} (h:i64 x) (l:List Int) (r:Str) (k:Bool):intR ⟨numsL (x::l)++r,k⟩=(x,⟨numsL l++r,k⟩):=by
 unfold intR
 rw [nums_cons,List.append_assoc,numR_back (u64_b x)]
 simp only [wrap_back h]
theorem i64_nat (n:Nat) (h:n<=9223372036854775807):i64 (n:Int):=⟨by omega,by omega⟩
theorem num_text (t r:Str):textBy t++r=numsL [(t.length:Int)]++(t++r):=by simp [textBy]
theorem textR_back {t:Str} (h:t.length<=2000000) (r:Str) (k:Bool):textR ⟨textBy t++r,k⟩=(t,⟨r,k⟩):=by
 unfold textR
 rw [num_text,nums_cons,numsL_nil,List.append_nil,u64_nat _ ⟨by omega,by omega⟩,numR_back ⟨by omega,by omega⟩]
 simp only [takeR]
 rw [if_pos (by simp only [List.length_append];omega)]
 simp only [Int.toNat_natCast,List.take_left',List.drop_left']
theorem nil_num (r:Str):numsL []++r=r:=rfl
theorem dotR_back {d:TDot} (h:InD d) (r:Str) (k:Bool):dotR ⟨dotBy d++r,k⟩=(d,⟨r,k⟩):=by
 unfold dotR dotBy
 simp only [intR_back h.a,intR_back h.b,intR_back h.c,nil_num]
theorem fenR_back {d:TFence} (h:i64 d.node/\i64 d.epoch) (r:Str) (k:Bool):fenR ⟨fenceBy d++r,k⟩=(d,⟨r,k⟩):=by
 unfold fenR fenceBy
 simp only [intR_back h.1,intR_back h.2,nil_num]
theorem routeR_back {d:TRoute} (h:InD d.dot) (hf:d.filter.length<=2000000) (r:Str) (k:Bool):routeR ⟨routeBy d++r,k⟩=(d,⟨r,k⟩):=by
 unfold routeR routeBy
 have e:numsL [d.dot.node,d.dot.epoch,d.dot.n]++textBy d.filter++r=dotBy d.dot++(textBy d.filter++r):=by rw [List.append_assoc];rfl
 rw [e]
 simp only [dotR_back h,textR_back hf]
attribute [local irreducible] numR intR textR dotR takeR
theorem gone_b (b:Bool):i64 (goneI b):=by cases b<;>exact ⟨by decide,by decide⟩
theorem numR_backI {x:Int} (l:List Int) (r:Str) (k:Bool):numR ⟨numsL (x::l)++r,k⟩=(IntKind.u64.wrap x,⟨numsL l++r,k⟩):=by
 rw [nums_cons,List.append_assoc,numR_back (u64_b x)]
theorem cellBy_is (c:TCell) (r:Str):cellBy c++r=dotBy c.dot++(numsL [c.stamp.l,c.stamp.c,c.stamp.node]++(textBy c.topic++(textBy c.payload++(numsL [c.qos,goneI c.gone]++r)))):=by
 have e:numsL [c.dot.node,c.dot.epoch,c.dot.n,c.stamp.l,c.stamp.c,c.stamp.node]=dotBy c.dot++numsL [c.stamp.l,c.stamp.c,c.stamp.node]:=by simp [dotBy,numsL]
 unfold cellBy
 rw [e]
 simp only [List.append_assoc]
theorem cellR_back {c:TCell} (h:InC c) (ht:c.topic.length<=2000000) (hp:c.payload.length<=2000000) (r:Str) (k:Bool):cellR ⟨cellBy c++r,k⟩=(c,⟨r,k⟩):=by
 rw [cellBy_is]
 simp only [cellR,cS8,cS7,cS6,cS5,cS4,cS3,cS2,cS1,dotR_back h.d,numR_backI,intR_back h.n,nil_num,textR_back ht,textR_back hp,intR_back h.q,wrap_back h.l,wrap_back h.c]
 obtain ⟨_,_,_,_,_,g⟩:=c
 cases g<;>rfl
theorem listL_back {β:Type} {one:RS->β×RS} {by_:β->Str} (hm:∀ s,mu (one s).2<=mu s/\(s.k=false->mu (one s).2<mu s)):∀ (xs:List β) (r:Str) (q:Nat) (a:List β),(∀ x∈xs,∀ r,one ⟨by_ x++r,false⟩=(x,⟨r,false⟩))->mu ⟨flatBy by_ xs++r,false⟩<=q->listL one q (xs.length:Int) a ⟨flatBy by_ xs++r,false⟩=(a++xs,⟨r,false⟩)
 | [],r,q,a,_,_=>by rw [listL_end (by simp)];simp [flatBy]
 | x::xs,r,q,a,h,hq=>by
  have e:flatBy by_ (x::xs)++r=by_ x++(flatBy by_ xs++r):=by simp [flatBy]
  have hx:=h x (List.mem_cons_self ..) (flatBy by_ xs++r)
  rw [e] at hq ⊢
  obtain ⟨h1,h2,_⟩:=listL_go hm (a:=a) (n:=((x::xs).length:Int)) hq ⟨by simp only [List.length_cons];omega,rfl⟩
  rw [h1]
  rw [hx] at h2 ⊢
  have:=listL_back hm xs r (q - 1) (a++[x]) (fun y hy=>h y (List.mem_cons_of_mem _ hy)) h2
  rw [show ((x::xs).length:Int) - 1=(xs.length:Int) by simp only [List.length_cons];omega]
  rw [this,List.append_assoc];rfl
theorem runL_back {β:Type} {one:RS->β×RS} {by_:β->Str} (hm:∀ s,mu (one s).2<=mu s/\(s.k=false->mu (one s).2<mu s)) {xs:List β} (r:Str) (h:∀ x∈xs,∀ r,one ⟨by_ x++r,false⟩=(x,⟨r,false⟩)) (hl:xs.length<=2000000):runL one ⟨numsL [(xs.length:Int)]++(flatBy by_ xs++r),false⟩=(xs,⟨r,false⟩):=by
 unfold runL
 rw [numR_backI,nil_num,u64_nat _ ⟨by omega,by omega⟩]
 rw [listL_back hm xs r _ [] h (Nat.le_refl _)];rfl
theorem runD_back {ds:List TDot} (h:∀ d∈ds,InD d) (hl:ds.length<=2000000) (r:Str):runL dotR ⟨dotsBy ds++r,false⟩=(ds,⟨r,false⟩):=by
 rw [show dotsBy ds++r=numsL [(ds.length:Int)]++(flatBy dotBy ds++r) by rw [dotsBy,List.append_assoc]]
 exact runL_back dotR_mu r (fun d hd r=>dotR_back (h d hd) r false) hl
theorem tableBy_is (t:TTable) (r:Str):tableBy t++r=dotsBy t.seen++(numsL [(t.fences.length:Int)]++(flatBy fenceBy t.fences++(numsL [(t.routes.length:Int)]++(flatBy routeBy t.routes++(numsL [(t.cells.length:Int)]++(flatBy cellBy t.cells++r)))))):=by
 unfold tableBy;simp only [List.append_assoc]
theorem tabR_back {t:TTable} (h:InT t) (hl:LightT t) (r:Str):tabR ⟨tableBy t++r,false⟩=(t,⟨r,false⟩):=by
 rw [tableBy_is]
 have e1:=runD_back h.s (Nat.le_trans hl.s (by decide)) (numsL [(t.fences.length:Int)]++(flatBy fenceBy t.fences++(numsL [(t.routes.length:Int)]++(flatBy routeBy t.routes++(numsL [(t.cells.length:Int)]++(flatBy cellBy t.cells++r))))))
 have e2:=runL_back (by_:=fenceBy) fenR_mu (xs:=t.fences) (numsL [(t.routes.length:Int)]++(flatBy routeBy t.routes++(numsL [(t.cells.length:Int)]++(flatBy cellBy t.cells++r)))) (fun d hd r=>fenR_back (h.f d hd) r false) (Nat.le_trans hl.f (by decide))
 have e3:=runL_back (by_:=routeBy) routeR_mu (xs:=t.routes) (numsL [(t.cells.length:Int)]++(flatBy cellBy t.cells++r)) (fun d hd r=>routeR_back (h.r d hd) (hl.rf d hd) r false) (Nat.le_trans hl.r (by decide))
 have e4:=runL_back (by_:=cellBy) cellR_mu (xs:=t.cells) r (fun d hd r=>cellR_back (h.c d hd) (hl.ct d hd) (hl.cp d hd) r false) (Nat.le_trans hl.c (by decide))
 simp only [tabR,tS3,tS2,tS1,e1,e2,e3,e4]
theorem frameR_back {f:TFrame} (hB:frameB f=true) (hi:InF f) (hl:LightF f) {c:UInt8} (hc:c=byteI f.kind):frameR c ⟨numsL [f.fr,f.ep,f.at_]++restBy f,false⟩=(f,⟨[],false⟩):=by
 subst hc
 have hk:=frameB_kind hB
 have hcn:((byteI f.kind).toNat:Int)=f.kind:=by unfold byteI;rw [UInt8.toNat_ofNat'];omega
 obtain ⟨k,fr,ep,at_,sums,seen,tab,seq,topic,payload,qos,retain⟩:=f
 have hs:=hl.sums;have hsn:=hl.seen;have ht:=hl.top;have hp:=hl.msg
 have hu:=hi.u;have hd:=hi.s;have htb:=hi.t;have hlt:=hl.tab
 simp only at hk hcn hs hsn ht hp hu hd htb hlt ⊢
 unfold frameB at hB
 simp only [Bool.and_eq_true,decide_eq_true_eq] at hB
 obtain ⟨⟨⟨⟨⟨⟨b1,b2⟩,b3⟩,b4⟩,b5⟩,b6⟩,hB⟩:=hB
 have i1:i64 fr:=⟨by omega,by omega⟩
 have i2:i64 ep:=⟨by omega,by omega⟩
 have i3:i64 at_:=⟨by omega,by omega⟩
 by_cases k1:k=1
 · subst k1
   rw [if_pos rfl] at hB
   simp only [Bool.and_eq_true,decide_eq_true_eq,wordB,Bool.not_eq_true'] at hB
   obtain ⟨⟨⟨q1,q2⟩,q3⟩,⟨⟨⟨q4,q5⟩,q6⟩,q7⟩,q8⟩:=hB
   subst q3;subst q4;subst q5;subst q6;subst q7;subst q8
   have e1:=runL_back (by_:=sumBy) numR_mu (xs:=sums) (dotsBy seen) (fun d hd r=>numR_back (hu d hd) r false) (Nat.le_trans hs (by decide))
   have e2:=runD_back hd (Nat.le_trans hsn (by decide)) []
   rw [List.append_nil] at e2
   rw [frameR_1 hcn,restP_1 rfl,List.append_assoc]
   simp only [gS3,gS2,gS1,intR_back i1,intR_back i2,intR_back i3,nil_num,e1,e2,hcn]
 · by_cases k2:k=2
   · subst k2
     rw [if_neg (by decide),if_pos rfl] at hB
     simp only [Bool.and_eq_true,decide_eq_true_eq,wordB,Bool.not_eq_true'] at hB
     obtain ⟨⟨⟨q1,q2⟩,q3⟩,⟨⟨⟨q4,q5⟩,q6⟩,q7⟩,q8⟩:=hB
     subst q1;subst q2;subst q4;subst q5;subst q6;subst q7;subst q8
     have e1:=tabR_back htb hlt []
     rw [List.append_nil] at e1
     rw [frameR_2 hcn,restP_2 rfl]
     simp only [gS3,gS2,gS1,intR_back i1,intR_back i2,intR_back i3,nil_num,e1,hcn]
   · have k3:k=3:=by omega
     subst k3
     rw [if_neg (by decide),if_neg (by decide),if_pos rfl] at hB
     simp only [Bool.and_eq_true,decide_eq_true_eq,Bool.not_eq_true'] at hB
     obtain ⟨⟨⟨⟨⟨⟨⟨⟨q1,q2⟩,q3⟩,q4⟩,q5⟩,q6⟩,q7⟩,q8⟩,q9⟩:=hB
     subst q1;subst q2;subst q3;subst q9
     have i4:i64 seq:=⟨by omega,by omega⟩
     have i5:i64 qos:=⟨by omega,by omega⟩
     rw [frameR_3 hcn,restP_3 rfl]
     have e0:numsL [seq]++textBy topic++textBy payload++numsL [qos]=numsL [seq]++(textBy topic++(textBy payload++(numsL [qos]++[]))):=by simp only [List.append_assoc,List.append_nil]
     rw [e0]
     simp only [gS6,gS5,gS4,gS3,gS2,gS1,intR_back i1,intR_back i2,intR_back i3,intR_back i4,intR_back i5,nil_num,textR_back ht,textR_back hp,hcn]
theorem intR_in (s:RS):i64 (intR s).1:=by
 unfold intR
 simp only [IntKind.wrap,IntKind.bits,IntKind.signed]
 refine ⟨?_,?_⟩<;>(simp;omega)
theorem wrap_in (x:Int):i64 (IntKind.i64.wrap x):=by
 simp only [IntKind.wrap,IntKind.bits,IntKind.signed]
 refine ⟨?_,?_⟩<;>(simp;omega)
theorem dotR_in (s:RS):InD (dotR s).1:=by unfold dotR;exact ⟨intR_in _,intR_in _,intR_in _⟩
theorem cellR_in (s:RS):InC (cellR s).1:=⟨dotR_in _,wrap_in _,wrap_in _,intR_in _,intR_in _⟩
theorem runL_in {β:Type} {one:RS->β×RS} {P:β->Prop} (hl:∀ s,(one s).2.l.length<=s.l.length) (hP:∀ s,P (one s).1) (s:RS):∀ x∈(runL one s).1,P x :=
 runL_all hl (fun s _=>hP s) s (Nat.le_refl _)
theorem tabR_in (s:RS):InT (tabR s).1 :=
 ⟨runL_in dotR_len dotR_in s,runL_in fenR_len (fun s=>⟨intR_in _,intR_in _⟩) _,runL_in (P:=fun r:TRoute=>InD r.dot) routeR_len (fun s=>by unfold routeR;exact dotR_in s) _,runL_in cellR_len cellR_in _⟩
theorem empty_in:InT emptyT:=⟨(fun _ h=>nomatch h),(fun _ h=>nomatch h),(fun _ h=>nomatch h),(fun _ h=>nomatch h)⟩
theorem frameR_in (c:UInt8) (s:RS):InF (frameR c s).1:=by
 unfold frameR
 split
 · exact ⟨runL_in numR_len numR_b _,runL_in dotR_len dotR_in _,empty_in⟩
 · split
   · exact ⟨(fun _ h=>nomatch h),(fun _ h=>nomatch h),tabR_in _⟩
   · split<;>exact ⟨(fun _ h=>nomatch h),(fun _ h=>nomatch h),empty_in⟩
def zeroF:TFrame:=⟨0,0,0,0,[],[],emptyT,0,[],[],0,false⟩
structure IsFrame (l:Str) (f:TFrame):Prop where
 i:InF f
 b:LightF f
 r:frameB f=true
 e:fullBy f=l
def bodyOf (l:Str):Str:=l.take (l.length - 8)
def sumOk (l:Str):Prop:=l.drop (l.length - 8)=leK 8 (fnvV (bodyOf l))
inductive ReadQ (l:Str):TFrame->Int->Prop
 | short (h:l.length<12\/l.take 3≠magicL):ReadQ l zeroF 21
 | sum (h1:12<=l.length) (h2:l.take 3=magicL) (h3:¬ sumOk l):ReadQ l zeroF 27
 | no (h1:12<=l.length) (h2:l.take 3=magicL) (h3:sumOk l) (h:∀ f,¬ IsFrame l f):ReadQ l zeroF 21
 | yes {f:TFrame} (h:IsFrame l f):ReadQ l f 0
theorem full_parts {f:TFrame} {l:Str} (h:fullBy f=l):12<=l.length/\l.take 3=magicL/\sumOk l/\(bodyOf l).drop 3=byteI f.kind::(numsL [f.fr,f.ep,f.at_]++restBy f):=by
 subst h
 have hl:(fullBy f).length=(bodyBy f).length+8:=by rw [fullBy,List.length_append,leK_len]
 have hb:bodyOf (fullBy f)=bodyBy f:=by
  unfold bodyOf;rw [hl,Nat.add_sub_cancel,fullBy,List.take_left]
 have hr:bodyBy f=72::66::49::byteI f.kind::(numsL [f.fr,f.ep,f.at_]++restBy f):=by
  unfold bodyBy headBy;rfl
 refine ⟨?_,?_,?_,?_⟩
 · have:=fullBy_len f;omega
 · rw [fullBy,hr];rfl
 · unfold sumOk;rw [hb,hl,Nat.add_sub_cancel,fullBy,List.drop_left]
 · rw [hb,hr];rfl
theorem IsFrame.read {l:Str} {f:TFrame} (h:IsFrame l f) {c:UInt8} {r:Str} (hr:(bodyOf l).drop 3=c::r):frameR c ⟨r,false⟩=(f,⟨[],false⟩):=by
 have e:=(full_parts h.e).2.2.2
 rw [hr] at e
 obtain ⟨rfl,rfl⟩:=List.cons.inj e
 exact frameR_back h.r h.i h.b rfl
theorem IsFrame.uniq {l:Str} {f g:TFrame} (h:IsFrame l f) (h':IsFrame l g):f=g:=by
 have e:=(full_parts h.e).2.2.2
 have h1:=h.read e
 have h2:=h'.read e
 rw [h1] at h2
 exact (Prod.mk.inj h2).1
theorem ReadQ.uniq {l:Str} {f g:TFrame} {e e':Int} (h:ReadQ l f e) (h':ReadQ l g e'):f=g/\e=e':=by
 have key:∀ {f g:TFrame} {e e':Int},ReadQ l f e->ReadQ l g e'->e=0->f=g/\e=e':=by
  intro f g e e' h h' he
  cases h with
  | yes h =>
   obtain ⟨p1,p2,p3,_⟩:=full_parts h.e
   cases h' with
   | short q=>exact absurd q (by rintro (q | q);(omega);(exact q p2))
   | sum _ _ q=>exact absurd p3 q
   | no _ _ _ q=>exact absurd h (q _)
   | yes h'=>exact ⟨h.uniq h',rfl⟩
  | _=>cases he
 by_cases h0:e=0
 · exact key h h' h0
 · by_cases h1:e'=0
   · obtain ⟨a,b⟩:=key h' h h1;exact ⟨a.symm,b.symm⟩
   · cases h with
     | yes _=>exact absurd rfl h0
     | short q =>
      cases h' with
      | yes _=>exact absurd rfl h1
      | sum q1 q2 _=>exact absurd q (by rintro (q | q);(omega);(exact q q2))
      | _=>exact ⟨rfl,rfl⟩
     | sum q1 q2 q3 =>
      cases h' with
      | yes _=>exact absurd rfl h1
      | short q=>exact absurd q (by rintro (q | q);(omega);(exact q q2))
      | no _ _ q _=>exact absurd q q3
      | sum _ _ _=>exact ⟨rfl,rfl⟩
     | no q1 q2 q3 _ =>
      cases h' with
      | yes _=>exact absurd rfl h1
      | sum _ _ q=>exact absurd q3 q
      | _=>exact ⟨rfl,rfl⟩
end
section
theorem zero_light:LightF zeroF:=⟨Nat.zero_le _,Nat.zero_le _,empty_light,Nat.zero_le _,Nat.zero_le _⟩
theorem zero_in:InF zeroF:=⟨(fun _ h=>nomatch h),(fun _ h=>nomatch h),empty_in⟩
theorem read_total (l:Str):∃ p:TFrame×Int,ReadQ l p.1 p.2/\InF p.1/\LightF p.1:=by
 by_cases h:∃ f,IsFrame l f
 · obtain ⟨f,h⟩:=h
   exact ⟨(f,0), .yes h,h.i,h.b⟩
 · by_cases h1:l.length<12\/l.take 3≠magicL
   · exact ⟨(zeroF,21), .short h1,zero_in,zero_light⟩
   · have a1:12<=l.length:=by
      rcases Nat.lt_or_ge l.length 12 with q | q
      · exact absurd (.inl q) h1
      · exact q
     have a2:l.take 3=magicL:=Classical.byContradiction fun q=>h1 (.inr q)
     by_cases h2:sumOk l
     · exact ⟨(zeroF,21), .no a1 a2 h2 (fun f hf=>h ⟨f,hf⟩),zero_in,zero_light⟩
     · exact ⟨(zeroF,27), .sum a1 a2 h2,zero_in,zero_light⟩
noncomputable def readF (l:Str):TFrame:=(Classical.choose (read_total l)).1
noncomputable def readE (l:Str):Int:=(Classical.choose (read_total l)).2
theorem read_is (l:Str):ReadQ l (readF l) (readE l)/\InF (readF l)/\LightF (readF l):=Classical.choose_spec (read_total l)
theorem read_eq {l:Str} {f:TFrame} {e:Int} (h:ReadQ l f e):readF l=f/\readE l=e:=(read_is l).1.uniq h
theorem read_frame {l:Str} {f:TFrame} (h:IsFrame l f):readF l=f/\readE l=0:=read_eq (.yes h)
attribute [local irreducible] DW SeqD DV DOp DC DVX DVJ DVM frameB fullBy leK frameR
theorem read21s_dc (l:List UInt8) (F:Own):(l.length<12)->DC Tryz.prog 20 [.sl (l.map u8)] (([]:Own)++F) fun d G=>d = .tup [.agg [.int .i64 0, .int .i64 0, .int .i64 0, .int .i64 0, .gs (.slice none 0 0) [], .gs (.slice none 0 0) [], .gs (.slice none 0 0) [], .gs (.slice none 0 0) [], .gs (.slice none 0 0) [], .gs (.slice none 0 0) [], .int .i64 0, .str [], .gs (.slice none 0 0) [], .int .i64 0, .bool false], .int .i64 21]/\G=[]++F:=by
 intro hA
 have h1:=hA
 refine DC.bodyS (n_:=71) (show Tryz.prog.funcs[20]? = some Tryz.f20 by kernel_rfl) rfl rfl (by rfl) ?_
 simp only [env0,List.cons_append,List.nil_append]
 have kw:=ksIs [0,2,3,4,5,6,7,8,12,17,28,68]
 have ow:=ownIs [33,47]
 have dw6:=drIs 6 [4,5,10] []
 have rw_:=rsIs [.cell 2 33, .tmp 3]
 repeat' (first
  | refine g_ ?_
  | ((with_reducible refine And.intro ?_ ?_);(exact sv_read21s_dc))
  | (refine DW.cond (by rfl) ?_ ?_<;>(first | exact i0_ | (refine ic_ ?_;intro hb)))
  | ((with_reducible first | refine FVg_cases ?_ ?_ | refine FDg_cases ?_ ?_)<;>(intro hb;rw [hb];revert hb;(first | exact i0_ | (refine i_ ?_;intro hb))))
  | refine r_ ?_
  | refine d_ ?_
  | refine k_ ?_
  | refine vo_ ?_
  | refine o_ ?_
  | refine f_ ?_
  | refine vm_ ?_
  | with_reducible intro b)
 all_goals first
 | ((first | exact fin_ | refine finq_ ?_);done)
 | (exfalso;omega)
theorem sv_read21m_dc {p:Prop} (h:p:=by first | exact sv | (simp [u8,V.one];omega) | (simp [u8,V.one]<;>fail) | fail):p:=h
theorem s_read21m_dc {P Q:Prop} (q:Q) (h:Hid Q->P:=by (intro q;simp (maxSteps:=1000000) (disch:=omega) only [push_cast,↓reduceIte,reduceCtorEq,Nat.reduceAdd,Nat.reduceMul,Nat.reduceLT,Nat.reduceLeDiff,Nat.reduceEqDiff,Nat.reduceSub,Int.reduceToNat,Int.reduceLT,Int.reduceLE,Int.reduceAdd,Int.reduceSub,Int.reduceMul,Int.reduceNeg,Nat.reduceBEq,Int.reduceBEq,Int.reduceBNe,Nat.reduceBNe,Int.reduceEq,toN3,takeMap,isU8,isU8_map,byteOf_map,hb0];exact q.1)):P:=h ⟨q⟩
section
attribute [local push_cast 2000] toN3 takeMap isU8 isU8_map byteOf_map
theorem read21m_dc (l:List UInt8) (F:Own):((12<=l.length/\l.length<=1048576)/\(l.take 3==([72,66,49]:List UInt8))=false)->DC Tryz.prog 20 [.sl (l.map u8)] (([]:Own)++F) fun d G=>d = .tup [.agg [.int .i64 0, .int .i64 0, .int .i64 0, .int .i64 0, .gs (.slice none 0 0) [], .gs (.slice none 0 0) [], .gs (.slice none 0 0) [], .gs (.slice none 0 0) [], .gs (.slice none 0 0) [], .gs (.slice none 0 0) [], .int .i64 0, .str [], .gs (.slice none 0 0) [], .int .i64 0, .bool false], .int .i64 21]/\G=[]++F:=by
 intro hA
 obtain ⟨⟨h1,h2⟩,hb0⟩:=hA
 refine DC.bodyS (n_:=71) (show Tryz.prog.funcs[20]? = some Tryz.f20 by kernel_rfl) rfl rfl (by rfl) ?_
 simp only [env0,List.cons_append,List.nil_append]
 have kw:=ksIs [0,2,3,4,5,6,7,8,12,17,28,68]
 have ow:=ownIs [33,47]
 have dw6:=drIs 6 [4,5,10] []
 have rw_:=rsIs [.cell 2 33, .tmp 3]
 repeat' (first
  | refine g_ ?_
  | ((with_reducible refine And.intro ?_ ?_);(exact sv_read21m_dc))
  | (refine DW.cond (by rfl) ?_ ?_<;>(first | exact i0_ | (intro hb;(try simp only [↓reduceCtorEq,not_true_eq_false,not_false_eq_true,hbs,Int.reduceBEq,Int.reduceBNe,Int.reduceEq] at hb);(try refine s_read21m_dc ?_))))
  | ((with_reducible first | refine FVg_cases ?_ ?_ | refine FDg_cases ?_ ?_)<;>(intro hb;rw [hb];revert hb;(first | exact i0_ | (intro hb;(try simp only [↓reduceCtorEq,not_true_eq_false,not_false_eq_true,hbs,Int.reduceBEq,Int.reduceBNe,Int.reduceEq] at hb);(try refine s_read21m_dc ?_)))))
  | ((first | refine rn_ ?_ | refine dn_ ?_ | refine kn_ ?_)<;>(refine s_read21m_dc ?_))
  | ((refine von_ ?_);refine s_read21m_dc ?_)
  | ((refine on_ ?_);refine s_read21m_dc ?_)
  | refine f_ ?_
  | refine vm_ ?_
  | with_reducible intro b)
 all_goals first
 | ((first | exact fin_ | refine finq_ ?_);done)
 | (exfalso;omega)
end
theorem pread_dc (l:List UInt8) (m:Int) (F:Own):l.length<=1048576->DC Tryz.prog 20 [.sl (l.map u8)] ([knF,knA,knM m]++F) fun d G=>d = .tup [.agg [.int .i64 (readF l).kind, .int .i64 (readF l).fr, .int .i64 (readF l).ep, .int .i64 (readF l).at_, .sl ((readF l).sums.map encU), .sl ((readF l).seen.map encDot), .sl ((readF l).tab.seen.map encDot), .sl ((readF l).tab.fences.map encFence), .sl ((readF l).tab.routes.map encRoute), .sl ((readF l).tab.cells.map encCell), .int .i64 (readF l).seq, .str (readF l).topic, .sl ((readF l).payload.map u8), .int .i64 (readF l).qos, .bool (readF l).retain], .int .i64 (readE l)]/\G=[knF,knA,knM m]++F:=fun hl=>by
 have e8:((l.length:Int) - 8).toNat=l.length - 8:=by omega
 have hz:∀ {e:Int} {d:V} {G G':Own},ReadQ l zeroF e->(d = .tup [.agg [.int .i64 0, .int .i64 0, .int .i64 0, .int .i64 0, .gs (.slice none 0 0) [], .gs (.slice none 0 0) [], .gs (.slice none 0 0) [], .gs (.slice none 0 0) [], .gs (.slice none 0 0) [], .gs (.slice none 0 0) [], .int .i64 0, .str [], .gs (.slice none 0 0) [], .int .i64 0, .bool false], .int .i64 e]/\G=G')->∃ d' G1,le d d'/\OLe G G1/\d'=V.tup [.agg [.int .i64 (readF l).kind, .int .i64 (readF l).fr, .int .i64 (readF l).ep, .int .i64 (readF l).at_, .sl ((readF l).sums.map encU), .sl ((readF l).seen.map encDot), .sl ((readF l).tab.seen.map encDot), .sl ((readF l).tab.fences.map encFence), .sl ((readF l).tab.routes.map encRoute), .sl ((readF l).tab.cells.map encCell), .int .i64 (readF l).seq, .str (readF l).topic, .sl ((readF l).payload.map u8), .int .i64 (readF l).qos, .bool (readF l).retain], .int .i64 (readE l)]/\G1=G':=fun h ⟨e1,e2⟩=>by
  obtain ⟨h1,h2⟩:=read_eq h
  rw [h1,h2]
  subst e1;subst e2
  refine ⟨_,_,le.tup ?_,OLe.rfl_,rfl,rfl⟩
  (repeat (first | exact Les.nil | refine Les.cons le.rfl_ ?_ | refine Les.cons (le.gs rfl) ?_ | refine Les.cons (le.agg ?_) ?_))
 by_cases h1:l.length<12
 · exact (read21s_dc l ([knF,knA,knM m]++F) h1).post_le fun d G h=>hz (.short (.inl h1)) h
 · by_cases h2:l.take 3=magicL
   · have hd:(bodyOf l).length<=1048576:=by unfold bodyOf;rw [List.length_take];omega
     by_cases h3:sumOk l
     · match hr:(bodyOf l).drop 3 with
       | [] =>
        have:=congrArg List.length hr
        unfold bodyOf at this
        rw [List.length_drop,List.length_take,List.length_nil] at this
        omega
       | c::r =>
        have hrl:r.length<=1048576:=by
         have:=congrArg List.length hr
         rw [List.length_drop,List.length_cons] at this
         omega
        match hz2:frameR c ⟨r,false⟩ with
        | (f,z) =>
         have hf:LightF f:=by have:=frameR_light c ⟨r,false⟩ hrl;rw [hz2] at this;exact this
         have hi:InF f:=by have:=frameR_in c ⟨r,false⟩;rw [hz2] at this;exact this
         cases hB:frameB f with
         | false =>
          refine (preadN_dc c l (bodyOf l) r f z m F ⟨⟨by omega,hl⟩,h2,by rw [e8];exact h3,by rw [e8];rfl,hr,hz2,hf,hrl,hd,hB⟩).post_le fun d G h=>hz (.no (by omega) h2 h3 fun g hg=>?_) h
          have:=hg.read hr
          rw [hz2] at this
          obtain ⟨rfl,_⟩:=Prod.mk.inj this
          rw [hg.r] at hB;cases hB
         | true =>
          refine (preadY_dc c l (bodyOf l) r f z m F ⟨⟨by omega,hl⟩,h2,by rw [e8];exact h3,by rw [e8];rfl,hr,hz2,hf,hrl,hd,hB⟩).post_le fun d G h=>?_
          rcases h with ⟨⟨⟨q1,q2⟩,q3⟩ | ⟨q1,q2⟩,q4⟩
          · obtain ⟨e1,e2⟩:=read_frame ⟨hi,hf,hB,q2⟩
            rw [e1,e2]
            exact ⟨d,G,le.rfl_,OLe.rfl_,q3,q4⟩
          · refine hz (.no (by omega) h2 h3 fun g hg=>q1 ?_) ⟨q2,q4⟩
            have:=hg.read hr
            rw [hz2] at this
            obtain ⟨rfl,rfl⟩:=Prod.mk.inj this
            exact ⟨rfl,hg.e⟩
     · obtain ⟨v1,v2⟩:=val_8 (s:=l.drop (l.length - 8)) (by rw [List.length_drop];omega)
       exact (read3_dc l (bodyOf l) (valL (l.drop (l.length - 8))) ([knF,knA,knM m]++F) ⟨⟨by omega,hl⟩,h2,by rw [e8];exact v1.symm,by rw [e8];rfl,fun hx=>h3 (by unfold sumOk;rw [<-hx];exact v1.symm),v2,hd⟩).post_le fun d G h=>hz (.sum (by omega) h2 h3) h
   · exact (read21m_dc l ([knF,knA,knM m]++F) ⟨⟨by omega,hl⟩,beq_eq_false_iff_ne.2 h2⟩).post_le fun d G h=>hz (.short (.inr h2)) h
end
section
attribute [local irreducible] numR intR textR dotR takeR
def manyR (each:Int) (s:RS):Int×RS:=if (intR s).1<0\/((intR s).2.l.length:Int).tdiv each<(intR s).1 then (0,⟨(intR s).2.l,true⟩) else intR s
def textD (s:RS):Str×RS:=((manyR 1 s).2.l.take (manyR 1 s).1.toNat,⟨(manyR 1 s).2.l.drop (manyR 1 s).1.toNat,(manyR 1 s).2.k⟩)
def iterL {β:Type} (one:RS->β×RS):Nat->List β->RS->List β×RS
 | 0,a,s=>(a,s)
 | n+1,a,s=>iterL one n (a++[(one s).1]) (one s).2
def rowD {β:Type} (each:Int) (one:RS->β×RS) (s:RS):List β×RS:=iterL one (manyR each s).1.toNat [] (manyR each s).2
def routeD (s:RS):TRoute×RS:=(⟨(dotR s).1,(textD (dotR s).2).1⟩,(textD (dotR s).2).2)
def dS1 (s:RS):RS:=(dotR s).2
def dS2 (s:RS):RS:=(intR (dS1 s)).2
def dS3 (s:RS):RS:=(intR (dS2 s)).2
def dS4 (s:RS):RS:=(intR (dS3 s)).2
def dS5 (s:RS):RS:=(textD (dS4 s)).2
def dS6 (s:RS):RS:=(textD (dS5 s)).2
def dS7 (s:RS):RS:=(intR (dS6 s)).2
def dS8 (s:RS):RS:=(intR (dS7 s)).2
def cellD (s:RS):TCell×RS:=(⟨(dotR s).1,⟨(intR (dS1 s)).1,(intR (dS2 s)).1,(intR (dS3 s)).1⟩,(textD (dS4 s)).1,(textD (dS5 s)).1,(intR (dS6 s)).1,(intR (dS7 s)).1==1⟩,dS8 s)
def eS1 (s:RS):RS:=(rowD 24 dotR s).2
def eS2 (s:RS):RS:=(rowD 16 fenR (eS1 s)).2
def eS3 (s:RS):RS:=(rowD 32 routeD (eS2 s)).2
def tabD (s:RS):TTable×RS:=(⟨(rowD 24 dotR s).1,(rowD 16 fenR (eS1 s)).1,(rowD 32 routeD (eS2 s)).1,(rowD 80 cellD (eS3 s)).1⟩,(rowD 80 cellD (eS3 s)).2)
def hS5 (s:RS):RS:=(textD (gS4 s)).2
def hS6 (s:RS):RS:=(textD (hS5 s)).2
def frameD (c:UInt8) (s:RS):TFrame×RS :=
 if (c.toNat:Int)=1 then (⟨(c.toNat:Int),(intR s).1,(intR (gS1 s)).1,(intR (gS2 s)).1,(rowD 8 numR (gS3 s)).1,(rowD 24 dotR (rowD 8 numR (gS3 s)).2).1,emptyT,0,[],[],0,false⟩,(rowD 24 dotR (rowD 8 numR (gS3 s)).2).2)
 else if (c.toNat:Int)=2 then (⟨(c.toNat:Int),(intR s).1,(intR (gS1 s)).1,(intR (gS2 s)).1,[],[],(tabD (gS3 s)).1,0,[],[],0,false⟩,(tabD (gS3 s)).2)
 else if (c.toNat:Int)=3 then (⟨(c.toNat:Int),(intR s).1,(intR (gS1 s)).1,(intR (gS2 s)).1,[],[],emptyT,(intR (gS3 s)).1,(textD (gS4 s)).1,(textD (hS5 s)).1,(intR (hS6 s)).1,false⟩,(intR (hS6 s)).2)
 else (⟨(c.toNat:Int),(intR s).1,(intR (gS1 s)).1,(intR (gS2 s)).1,[],[],emptyT,0,[],[],0,false⟩,gS3 s)
theorem many_len (each:Int) (s:RS):(manyR each s).2.l.length<=s.l.length:=by
 unfold manyR;split
 · exact intR_len s
 · exact intR_len s
theorem many_b {each:Int} (he:1<=each) (s:RS):0<=(manyR each s).1/\(manyR each s).1 * each<=(manyR each s).2.l.length:=by
 unfold manyR;split
 · exact ⟨Int.le_refl _,by simp only;omega⟩
 · rename_i h
   have h1:0<=(intR s).1:=by omega
   have h2:(intR s).1<=((intR s).2.l.length:Int).tdiv each:=by omega
   rw [Int.tdiv_eq_ediv_of_nonneg (by omega)] at h2
   exact ⟨h1,(Int.le_ediv_iff_mul_le (by omega)).1 h2⟩
theorem textD_len (s:RS):(textD s).2.l.length<=s.l.length:=by
 have:=many_len 1 s
 unfold textD;simp only [List.length_drop];omega
theorem textD_len1 (s:RS):(textD s).1.length<=s.l.length:=by
 have:=many_len 1 s
 unfold textD;simp only [List.length_take];omega
theorem iterL_len {β:Type} {one:RS->β×RS} (hl:∀ s,(one s).2.l.length<=s.l.length):∀ (n:Nat) (a:List β) (s:RS),(iterL one n a s).2.l.length<=s.l.length/\(iterL one n a s).1.length=a.length+n
 | 0,a,s=>⟨Nat.le_refl _,rfl⟩
 | n+1,a,s=>by
  obtain ⟨h1,h2⟩:=iterL_len hl n (a++[(one s).1]) (one s).2
  refine ⟨Nat.le_trans h1 (hl s),?_⟩
  show (iterL one n _ _).1.length=_
  rw [h2,List.length_append,List.length_singleton];omega
theorem iterL_all {β:Type} {one:RS->β×RS} {P:β->Prop} {N:Nat} (hl:∀ s,(one s).2.l.length<=s.l.length) (hP:∀ s,s.l.length<=N->P (one s).1):∀ (n:Nat) (a:List β) (s:RS),s.l.length<=N->(∀ x∈a,P x)->∀ x∈(iterL one n a s).1,P x
 | 0,a,s,_,ha=>ha
 | n+1,a,s,hs,ha=>iterL_all hl hP n (a++[(one s).1]) (one s).2 (Nat.le_trans (hl s) hs) fun x hx=>by
  rcases List.mem_append.1 hx with hx | hx
  · exact ha x hx
  · rw [List.mem_singleton] at hx;subst hx;exact hP s hs
theorem rowD_len {β:Type} {one:RS->β×RS} {each:Int} (he:1<=each) (hl:∀ s,(one s).2.l.length<=s.l.length) (s:RS):(rowD each one s).2.l.length<=s.l.length/\((rowD each one s).1.length:Int) * each<=s.l.length:=by
 obtain ⟨h1,h2⟩:=iterL_len hl (manyR each s).1.toNat [] (manyR each s).2
 have h3:=many_len each s
 obtain ⟨h4,h5⟩:=many_b he s
 refine ⟨Nat.le_trans h1 h3,?_⟩
 have e:((rowD each one s).1.length:Int)=(manyR each s).1:=by
  unfold rowD;rw [h2,List.length_nil];omega
 rw [e];omega
theorem rowD_all {β:Type} {one:RS->β×RS} {P:β->Prop} {each:Int} {N:Nat} (hl:∀ s,(one s).2.l.length<=s.l.length) (hP:∀ s,s.l.length<=N->P (one s).1) (s:RS) (hs:s.l.length<=N):∀ x∈(rowD each one s).1,P x :=
 iterL_all hl hP _ _ _ (Nat.le_trans (many_len each s) hs) (fun _ h=>nomatch h)
theorem routeD_len (s:RS):(routeD s).2.l.length<=s.l.length:=Nat.le_trans (textD_len _) (dotR_len s)
theorem dS_len (s:RS):(dS4 s).l.length<=s.l.length/\(dS5 s).l.length<=s.l.length/\(dS8 s).l.length<=s.l.length:=by
 have h1:(dS1 s).l.length<=s.l.length:=dotR_len s
 have h2:(dS2 s).l.length<=(dS1 s).l.length:=intR_len (dS1 s)
 have h3:(dS3 s).l.length<=(dS2 s).l.length:=intR_len (dS2 s)
 have h4:(dS4 s).l.length<=(dS3 s).l.length:=intR_len (dS3 s)
 have h5:(dS5 s).l.length<=(dS4 s).l.length:=textD_len (dS4 s)
 have h6:(dS6 s).l.length<=(dS5 s).l.length:=textD_len (dS5 s)
 have h7:(dS7 s).l.length<=(dS6 s).l.length:=intR_len (dS6 s)
 have h8:(dS8 s).l.length<=(dS7 s).l.length:=intR_len (dS7 s)
 omega
theorem cellD_len (s:RS):(cellD s).2.l.length<=s.l.length:=(dS_len s).2.2
theorem eS_len (s:RS):(eS1 s).l.length<=s.l.length/\(eS2 s).l.length<=s.l.length/\(eS3 s).l.length<=s.l.length/\(tabD s).2.l.length<=s.l.length:=by
 have h1:(eS1 s).l.length<=s.l.length:=(rowD_len (by decide) dotR_len s).1
 have h2:(eS2 s).l.length<=(eS1 s).l.length:=(rowD_len (by decide) fenR_len (eS1 s)).1
 have h3:(eS3 s).l.length<=(eS2 s).l.length:=(rowD_len (by decide) routeD_len (eS2 s)).1
 have h4:(tabD s).2.l.length<=(eS3 s).l.length:=(rowD_len (by decide) cellD_len (eS3 s)).1
 omega
theorem tabD_light (s:RS) (hs:s.l.length<=1048576):LightT (tabD s).1:=by
 obtain ⟨q1,q2,q3,_⟩:=eS_len s
 have c1:=(rowD_len (each:=24) (by decide) dotR_len s).2
 have c2:=(rowD_len (each:=16) (by decide) fenR_len (eS1 s)).2
 have c3:=(rowD_len (each:=32) (by decide) routeD_len (eS2 s)).2
 have c4:=(rowD_len (each:=80) (by decide) cellD_len (eS3 s)).2
 refine ⟨?_,?_,?_,?_,?_,?_,?_⟩
 · show (rowD 24 dotR s).1.length<=_;omega
 · show (rowD 16 fenR (eS1 s)).1.length<=_;omega
 · show (rowD 32 routeD (eS2 s)).1.length<=_;omega
 · show (rowD 80 cellD (eS3 s)).1.length<=_;omega
 · exact rowD_all routeD_len (P:=fun r=>r.filter.length<=2000000) (fun s h=>Nat.le_trans (textD_len1 _) (Nat.le_trans (dotR_len s) h)) (eS2 s) (by omega)
 · exact rowD_all cellD_len (P:=fun c=>c.topic.length<=2000000) (fun s h=>Nat.le_trans (textD_len1 (dS4 s)) (Nat.le_trans (dS_len s).1 h)) (eS3 s) (by omega)
 · exact rowD_all cellD_len (P:=fun c=>c.payload.length<=2000000) (fun s h=>Nat.le_trans (textD_len1 (dS5 s)) (Nat.le_trans (dS_len s).2.1 h)) (eS3 s) (by omega)
theorem hS_len (s:RS):(hS5 s).l.length<=s.l.length/\(hS6 s).l.length<=s.l.length:=by
 obtain ⟨_,_,_,g4,_⟩:=gS_len s
 have h5:(hS5 s).l.length<=(gS4 s).l.length:=textD_len (gS4 s)
 have h6:(hS6 s).l.length<=(hS5 s).l.length:=textD_len (hS5 s)
 omega
theorem frameD_light (c:UInt8) (s:RS) (hs:s.l.length<=1048576):LightF (frameD c s).1:=by
 obtain ⟨g1,g2,g3,g4,_⟩:=gS_len s
 obtain ⟨g5,g6⟩:=hS_len s
 unfold frameD
 split
 · have c1:=(rowD_len (each:=8) (by decide) numR_len (gS3 s)).2
   have c2:=(rowD_len (each:=24) (by decide) dotR_len (rowD 8 numR (gS3 s)).2).2
   have c3:=(rowD_len (each:=8) (by decide) numR_len (gS3 s)).1
   exact ⟨by show (rowD 8 numR (gS3 s)).1.length<=_;omega,by show (rowD 24 dotR (rowD 8 numR (gS3 s)).2).1.length<=_;omega,empty_light,Nat.zero_le _,Nat.zero_le _⟩
 · split
   · exact ⟨Nat.zero_le _,Nat.zero_le _,tabD_light _ (by omega),Nat.zero_le _,Nat.zero_le _⟩
   · split
     · exact ⟨Nat.zero_le _,Nat.zero_le _,empty_light,Nat.le_trans (textD_len1 (gS4 s)) (by omega),Nat.le_trans (textD_len1 (hS5 s)) (by omega)⟩
     · exact ⟨Nat.zero_le _,Nat.zero_le _,empty_light,Nat.zero_le _,Nat.zero_le _⟩
theorem cellD_in (s:RS):InC (cellD s).1:=⟨dotR_in _,intR_in _,intR_in _,intR_in _,intR_in _⟩
theorem rowD_in {β:Type} {one:RS->β×RS} {P:β->Prop} {each:Int} (hl:∀ s,(one s).2.l.length<=s.l.length) (hP:∀ s,P (one s).1) (s:RS):∀ x∈(rowD each one s).1,P x :=
 rowD_all hl (fun s _=>hP s) s (Nat.le_refl _)
theorem tabD_in (s:RS):InT (tabD s).1 :=
 ⟨rowD_in dotR_len dotR_in s,rowD_in fenR_len (fun s=>⟨intR_in _,intR_in _⟩) _,rowD_in (P:=fun r:TRoute=>InD r.dot) routeD_len (fun s=>by unfold routeD;exact dotR_in s) _,rowD_in cellD_len cellD_in _⟩
theorem frameD_in (c:UInt8) (s:RS):InF (frameD c s).1:=by
 unfold frameD
 split
 · exact ⟨rowD_in numR_len numR_b _,rowD_in dotR_len dotR_in _,empty_in⟩
 · split
   · exact ⟨(fun _ h=>nomatch h),(fun _ h=>nomatch h),tabD_in _⟩
   · split<;>exact ⟨(fun _ h=>nomatch h),(fun _ h=>nomatch h),empty_in⟩
theorem many_back {each:Int} (he:1<=each) {n:Nat} (hn:n<=2000000) {r:Str} (h:(n:Int) * each<=r.length):manyR each ⟨numsL [(n:Int)]++r,false⟩=((n:Int),⟨r,false⟩):=by
 unfold manyR
 rw [intR_back (i64_nat n (by omega)),nil_num]
 rw [if_neg]
 intro hc
 simp only at hc
 rw [Int.tdiv_eq_ediv_of_nonneg (by omega)] at hc
 have:=(Int.le_ediv_iff_mul_le (a:=(n:Int)) (b:=(r.length:Int)) (c:=each) (by omega)).2 h
 omega
theorem textD_back {t:Str} (h:t.length<=2000000) (r:Str):textD ⟨textBy t++r,false⟩=(t,⟨r,false⟩):=by
 unfold textD
 rw [num_text,many_back (by decide) h (by rw [List.length_append];omega)]
 simp only [Int.toNat_natCast]
 rw [List.take_left,List.drop_left]
theorem iterL_back {β:Type} {one:RS->β×RS} {by_:β->Str}:∀ (xs:List β) (r:Str) (a:List β),(∀ x∈xs,∀ r,one ⟨by_ x++r,false⟩=(x,⟨r,false⟩))->iterL one xs.length a ⟨flatBy by_ xs++r,false⟩=(a++xs,⟨r,false⟩)
 | [],r,a,_=>by simp [iterL,flatBy]
 | x::xs,r,a,h=>by
  have e:flatBy by_ (x::xs)++r=by_ x++(flatBy by_ xs++r):=by simp [flatBy]
  rw [e]
  show iterL one xs.length (a++[(one ⟨by_ x++(flatBy by_ xs++r),false⟩).1]) (one ⟨by_ x++(flatBy by_ xs++r),false⟩).2=_
  rw [h x (List.mem_cons_self ..)]
  rw [iterL_back xs r (a++[x]) (fun y hy=>h y (List.mem_cons_of_mem _ hy)),List.append_assoc];rfl
theorem flatBy_ge {α:Type} {f:α->Str} {n:Nat}:∀ {l:List α},(∀ x∈l,n<=(f x).length)->n * l.length<=(flatBy f l).length
 | [],_=>Nat.zero_le _
 | x::l,h=>by
  have:=flatBy_ge (f:=f) (n:=n) (l:=l) (fun y hy=>h y (List.mem_cons_of_mem _ hy))
  have h1:=h x (List.mem_cons_self ..)
  simp only [flatBy,List.map_cons,List.flatten_cons,List.length_append,List.length_cons] at this ⊢
  rw [Nat.mul_add];omega
theorem rowD_back {β:Type} {one:RS->β×RS} {by_:β->Str} {n:Nat} (hn:1<=n) {xs:List β} (r:Str) (h:∀ x∈xs,∀ r,one ⟨by_ x++r,false⟩=(x,⟨r,false⟩)) (hg:∀ x∈xs,n<=(by_ x).length) (hl:xs.length<=2000000):rowD (n:Int) one ⟨numsL [(xs.length:Int)]++(flatBy by_ xs++r),false⟩=(xs,⟨r,false⟩):=by
 unfold rowD
 have h1:=flatBy_ge hg
 rw [many_back (by omega) hl (by rw [List.length_append,<-Int.natCast_mul,Nat.mul_comm];omega)]
 simp only [Int.toNat_natCast]
 rw [iterL_back xs r [] h];rfl
theorem rowDots_back {ds:List TDot} (h:∀ d∈ds,InD d) (hl:ds.length<=2000000) (r:Str):rowD 24 dotR ⟨dotsBy ds++r,false⟩=(ds,⟨r,false⟩):=by
 rw [show dotsBy ds++r=numsL [(ds.length:Int)]++(flatBy dotBy ds++r) by rw [dotsBy,List.append_assoc]]
 exact rowD_back (n:=24) (by decide) r (fun d hd r=>dotR_back (h d hd) r false) (fun d _=>Nat.le_of_eq (dotBy_len d).symm) hl
theorem routeD_back {d:TRoute} (h:InD d.dot) (hf:d.filter.length<=2000000) (r:Str):routeD ⟨routeBy d++r,false⟩=(d,⟨r,false⟩):=by
 unfold routeD routeBy
 have e:numsL [d.dot.node,d.dot.epoch,d.dot.n]++textBy d.filter++r=dotBy d.dot++(textBy d.filter++r):=by rw [List.append_assoc];rfl
 rw [e]
 simp only [dotR_back h,textD_back hf]
theorem cellD_back {c:TCell} (h:InC c) (ht:c.topic.length<=2000000) (hp:c.payload.length<=2000000) (r:Str):cellD ⟨cellBy c++r,false⟩=(c,⟨r,false⟩):=by
 rw [cellBy_is]
 have hg:i64 (goneI c.gone):=gone_b _
 simp only [cellD,dS8,dS7,dS6,dS5,dS4,dS3,dS2,dS1,dotR_back h.d,intR_back h.l,intR_back h.c,intR_back h.n,nil_num,textD_back ht,textD_back hp,intR_back h.q,intR_back hg]
 obtain ⟨_,_,_,_,_,g⟩:=c
 cases g<;>rfl
theorem tabD_back {t:TTable} (h:InT t) (hl:LightT t) (r:Str):tabD ⟨tableBy t++r,false⟩=(t,⟨r,false⟩):=by
 rw [tableBy_is]
 have e1:=rowDots_back h.s (Nat.le_trans hl.s (by decide)) (numsL [(t.fences.length:Int)]++(flatBy fenceBy t.fences++(numsL [(t.routes.length:Int)]++(flatBy routeBy t.routes++(numsL [(t.cells.length:Int)]++(flatBy cellBy t.cells++r))))))
 have e2:=rowD_back (n:=16) (by_:=fenceBy) (by decide) (xs:=t.fences) (numsL [(t.routes.length:Int)]++(flatBy routeBy t.routes++(numsL [(t.cells.length:Int)]++(flatBy cellBy t.cells++r)))) (fun d hd r=>fenR_back (h.f d hd) r false) (fun d _=>Nat.le_of_eq (fenceBy_len d).symm) (Nat.le_trans hl.f (by decide))
 have e3:=rowD_back (n:=32) (by_:=routeBy) (by decide) (xs:=t.routes) (numsL [(t.cells.length:Int)]++(flatBy cellBy t.cells++r)) (fun d hd r=>routeD_back (h.r d hd) (hl.rf d hd) r) (fun d _=>by rw [routeBy_len];omega) (Nat.le_trans hl.r (by decide))
 have e4:=rowD_back (n:=80) (by_:=cellBy) (by decide) (xs:=t.cells) r (fun d hd r=>cellD_back (h.c d hd) (hl.ct d hd) (hl.cp d hd) r) (fun d _=>by rw [cellBy_len];omega) (Nat.le_trans hl.c (by decide))
 have c2:((16:Nat):Int)=16:=rfl
 have c3:((32:Nat):Int)=32:=rfl
 have c4:((80:Nat):Int)=80:=rfl
 rw [c2] at e2;rw [c3] at e3;rw [c4] at e4
 simp only [tabD,eS3,eS2,eS1,e1,e2,e3,e4]
theorem frameD_back {f:TFrame} (hB:frameB f=true) (hi:InF f) (hl:LightF f) {c:UInt8} (hc:c=byteI f.kind):frameD c ⟨numsL [f.fr,f.ep,f.at_]++restBy f,false⟩=(f,⟨[],false⟩):=by
 subst hc
 have hk:=frameB_kind hB
 have hcn:((byteI f.kind).toNat:Int)=f.kind:=by unfold byteI;rw [UInt8.toNat_ofNat'];omega
 obtain ⟨k,fr,ep,at_,sums,seen,tab,seq,topic,payload,qos,retain⟩:=f
 have hs:=hl.sums;have hsn:=hl.seen;have ht:=hl.top;have hp:=hl.msg
 have hu:=hi.u;have hd:=hi.s;have htb:=hi.t;have hlt:=hl.tab
 simp only at hk hcn hs hsn ht hp hu hd htb hlt ⊢
 unfold frameB at hB
 simp only [Bool.and_eq_true,decide_eq_true_eq] at hB
 obtain ⟨⟨⟨⟨⟨⟨b1,b2⟩,b3⟩,b4⟩,b5⟩,b6⟩,hB⟩:=hB
 have i1:i64 fr:=⟨by omega,by omega⟩
 have i2:i64 ep:=⟨by omega,by omega⟩
 have i3:i64 at_:=⟨by omega,by omega⟩
 by_cases k1:k=1
 · subst k1
   rw [if_pos rfl] at hB
   simp only [Bool.and_eq_true,decide_eq_true_eq,wordB,Bool.not_eq_true'] at hB
   obtain ⟨⟨⟨q1,q2⟩,q3⟩,⟨⟨⟨q4,q5⟩,q6⟩,q7⟩,q8⟩:=hB
   subst q3;subst q4;subst q5;subst q6;subst q7;subst q8
   have e1:=rowD_back (n:=8) (by_:=sumBy) (by decide) (xs:=sums) (dotsBy seen) (fun d hd r=>numR_back (hu d hd) r false) (fun d _=>Nat.le_of_eq (sumP_len d).symm) (Nat.le_trans hs (by decide))
   have c1:((8:Nat):Int)=8:=rfl
   rw [c1] at e1
   have e2:=rowDots_back hd (Nat.le_trans hsn (by decide)) []
   rw [List.append_nil] at e2
   rw [frameD,if_pos hcn,restP_1 rfl,List.append_assoc]
   simp only [gS3,gS2,gS1,intR_back i1,intR_back i2,intR_back i3,nil_num,e1,e2,hcn]
 · by_cases k2:k=2
   · subst k2
     rw [if_neg (by decide),if_pos rfl] at hB
     simp only [Bool.and_eq_true,decide_eq_true_eq,wordB,Bool.not_eq_true'] at hB
     obtain ⟨⟨⟨q1,q2⟩,q3⟩,⟨⟨⟨q4,q5⟩,q6⟩,q7⟩,q8⟩:=hB
     subst q1;subst q2;subst q4;subst q5;subst q6;subst q7;subst q8
     have e1:=tabD_back htb hlt []
     rw [List.append_nil] at e1
     rw [frameD,if_neg (by omega),if_pos hcn,restP_2 rfl]
     simp only [gS3,gS2,gS1,intR_back i1,intR_back i2,intR_back i3,nil_num,e1,hcn]
   · have k3:k=3:=by omega
     subst k3
     rw [if_neg (by decide),if_neg (by decide),if_pos rfl] at hB
     simp only [Bool.and_eq_true,decide_eq_true_eq,Bool.not_eq_true'] at hB
     obtain ⟨⟨⟨⟨⟨⟨⟨⟨q1,q2⟩,q3⟩,q4⟩,q5⟩,q6⟩,q7⟩,q8⟩,q9⟩:=hB
     subst q1;subst q2;subst q3;subst q9
     have i4:i64 seq:=⟨by omega,by omega⟩
     have i5:i64 qos:=⟨by omega,by omega⟩
     rw [frameD,if_neg (by omega),if_neg (by omega),if_pos hcn,restP_3 rfl]
     have e0:numsL [seq]++textBy topic++textBy payload++numsL [qos]=numsL [seq]++(textBy topic++(textBy payload++(numsL [qos]++[]))):=by simp only [List.append_assoc,List.append_nil]
     rw [e0]
     simp only [hS6,hS5,gS4,gS3,gS2,gS1,intR_back i1,intR_back i2,intR_back i3,intR_back i4,intR_back i5,nil_num,textD_back ht,textD_back hp,hcn]
theorem IsFrame.readD {l:Str} {f:TFrame} (h:IsFrame l f) {c:UInt8} {r:Str} (hr:(bodyOf l).drop 3=c::r):frameD c ⟨r,false⟩=(f,⟨[],false⟩):=by
 have e:=(full_parts h.e).2.2.2
 rw [hr] at e
 obtain ⟨rfl,rfl⟩:=List.cons.inj e
 exact frameD_back h.r h.i h.b rfl
end
section
theorem or8 {v c:Int} (h0:0<=v) (h1:v<72057594037927936) (h2:0<=c) (h3:c<256):((BitVec.ofInt IntKind.u64.bits (256 * v)|||BitVec.ofInt IntKind.u64.bits c).toNat:Int)=256 * v+c:=by
 obtain ⟨a,rfl⟩:=Int.eq_ofNat_of_zero_le h0
 obtain ⟨b,rfl⟩:=Int.eq_ofNat_of_zero_le h2
 rw [BitVec.toNat_or,BitVec.toNat_ofInt,BitVec.toNat_ofInt]
 have e1:(256 * (a:Int)%((2 ^ IntKind.u64.bits:Nat):Int)).toNat=2 ^ 8 * a:=by
  rw [show (2 ^ IntKind.u64.bits:Nat)=18446744073709551616 from rfl];omega
 have e2:((b:Int)%((2 ^ IntKind.u64.bits:Nat):Int)).toNat=b:=by
  rw [show (2 ^ IntKind.u64.bits:Nat)=18446744073709551616 from rfl];omega
 rw [e1,e2,<-Nat.two_pow_add_eq_or_of_lt (by omega)]
 omega
theorem val_at {l:Str} {j:Nat} (h:8<=l.length) (hj:j<8):valL ((l.take 8).drop (7 - j))=((l.getD (7 - j) default).toNat:Int)+256 * valL ((l.take 8).drop (8 - j)):=by
 have hl:(l.take 8).length=8:=by rw [List.length_take];omega
 rw [List.drop_eq_getElem_cons (by omega),show 7 - j+1=8 - j by omega]
 show (((l.take 8)[7 - j]'_).toNat:Int)+256 * valL _=_
 rw [List.getElem_take,List.getD_eq_getElem?_getD,List.getElem?_eq_getElem (by omega)];rfl
theorem val_b {l:Str} {j:Nat} (h:8<=l.length) (hj:j<8):0<=valL ((l.take 8).drop (8 - j))/\valL ((l.take 8).drop (8 - j))<72057594037927936:=by
 have hb:=valL_b ((l.take 8).drop (8 - j))
 have hl:((l.take 8).drop (8 - j)).length=j:=by rw [List.length_drop,List.length_take];omega
 rw [hl] at hb
 refine ⟨hb.1,Int.lt_of_lt_of_le hb.2 ?_⟩
 rcases (show j=0\/j=1\/j=2\/j=3\/j=4\/j=5\/j=6\/j=7 by omega) with rfl | rfl | rfl | rfl | rfl | rfl | rfl | rfl<;>decide
theorem or_step {l:Str} {j:Nat} (h:8<=l.length) (hj:j<8):IntKind.u64.wrap ((BitVec.ofInt IntKind.u64.bits (IntKind.u64.wrap (valL ((l.take 8).drop (8 - j)) * 2 ^ min 8 IntKind.u64.bits))|||BitVec.ofInt IntKind.u64.bits ((l.getD (7 - (j:Int)).toNat default).toNat:Int)).toNat:Int)=valL ((l.take 8).drop (8 - (j+1))):=by
 obtain ⟨b0,b1⟩:=val_b h hj
 have hc:=(l.getD (7 - j) default).toNat_lt
 have e2:(2:Int) ^ min 8 IntKind.u64.bits=256:=by decide
 rw [show (7 - (j:Int)).toNat=7 - j by omega,e2,wrap_u64 (valL ((l.take 8).drop (8 - j)) * 256) (by omega) (by omega),Int.mul_comm,or8 b0 b1 (by omega) (by omega),wrap_u64 _ (by omega) (by omega),show 8 - (j+1)=7 - j by omega,val_at h hj]
 omega
theorem iterL_0 {β:Type} (one:RS->β×RS) (a:List β) (s:RS):iterL one 0 a s=(a,s):=rfl
theorem iterL_s {β:Type} (one:RS->β×RS) (n:Nat) (a:List β) (s:RS):iterL one (n+1) a s=iterL one n (a++[(one s).1]) (one s).2:=rfl
theorem tdiv_b {n:Nat} {each:Int} (h:n<=2000000) (he:1<=each):0<=(n:Int).tdiv each/\(n:Int).tdiv each<=2000000:=by
 rw [Int.tdiv_eq_ediv_of_nonneg (by omega)]
 exact ⟨Int.ediv_nonneg (by omega) (by omega),Int.le_trans (Int.ediv_le_self _ (by omega)) (by omega)⟩
theorem val_0 {l:Str} (h:8<=l.length):valL ((l.take 8).drop (8 - 0))=0:=by
 rw [show (l.take 8).drop (8 - 0)=[] from List.drop_eq_nil_of_le (by rw [List.length_take];omega)];rfl
abbrev LDots:=List TDot
attribute [local irreducible] DW SeqD DV DOp DC DVX DVJ valL
theorem uB_dc (b:Nat) (s:RS) (F:Own):(s.l.length<8)->DC Tryz.prog 73 [.raw (.pointer (some ⟨b,0,none⟩))] ([.blk b [.sl ((s.l).map u8), .bool (s.k)]]++F) fun d G=>d = .int .u64 0/\G = .blk b [.gs (.slice none 0 0) [], .bool true]::F:=by
 intro hA
 have hl:=hA
 refine DC.bodyS (n_:=41) (show Tryz.prog.funcs[73]? = some Tryz.f73 by kernel_rfl) rfl rfl (by rfl) ?_
 simp only [env0,List.cons_append,List.nil_append]
 have kw:=ksIs [0,2,3,4,10,18]
 have ow:=ownIs []
 repeat' (first
  | ((with_reducible refine DW.loopB 0 (X:=Nat) (fun x=>x<=0) (fun x=>[(0, .raw (.pointer (some ⟨b,0,none⟩))),(3, .int .u64 0),(4, .int .i64 0)]) (fun x=>([]:Own)) (fun x=>0 - x) (0) ?_ ?_ ?_);exact (Nat.zero_le _);(simp [Sub,get,keepL]<;>fail);(try simp only [List.cons_append,List.nil_append]);refine pl_ ?_;intro j hj;(try simp only [List.cons_append,List.nil_append]))
  | refine g_ ?_
  | ((with_reducible refine And.intro ?_ ?_);(exact sv_uB_dc))
  | (refine DW.cond (by rfl) ?_ ?_<;>(first | exact i0_ | (refine ic_ ?_;intro hb)))
  | ((with_reducible refine FVg_cases ?_ ?_)<;>(intro hb;rw [hb];revert hb;(first | exact i0_ | (refine i_ ?_;intro hb))))
  | refine r_ ?_
  | refine k_ ?_
  | refine o_ ?_
  | refine f_ ?_
  | with_reducible intro b)
 all_goals first
 | ((first | exact fin_ | refine finq_ ?_);done)
 | (exfalso;omega)
theorem sv_uA_dc {p:Prop} (h:p:=by first | exact sv | (simp [u8,V.one];omega) | (simp [u8,V.one]<;>fail) | fail):p:=h
section
attribute [local push_cast 2000] u8 wrapU8 takeMap dropMap takeLen
theorem uA_dc (b:Nat) (s:RS) (F:Own):(8<=s.l.length/\s.l.length<=2000000)->DC Tryz.prog 73 [.raw (.pointer (some ⟨b,0,none⟩))] ([.blk b [.sl ((s.l).map u8), .bool (s.k)]]++F) fun d G=>d = .int .u64 (valL (s.l.take 8))/\G = .blk b [.sl ((s.l.drop 8).map u8), .bool (s.k)]::F:=by
 intro hA
 obtain ⟨hl,hl2⟩:=hA
 refine DC.bodyS (n_:=41) (show Tryz.prog.funcs[73]? = some Tryz.f73 by kernel_rfl) rfl rfl (by rfl) ?_
 simp only [env0,List.cons_append,List.nil_append]
 have kw:=ksIs [0,2,3,4,10,18]
 have ow:=ownIs []
 repeat' (first
  | ((with_reducible refine DW.loopB 0 (X:=Nat) (fun x=>x<=8) (fun x=>[(0, .raw (.pointer (some ⟨b,0,none⟩))),(3, .int .u64 (valL ((s.l.take 8).drop (8 - x)))),(4, .int .i64 (7 - (x:Int)))]) (fun x=>[.blk b [.sl ((s.l).map u8), .bool (s.k)]]) (fun x=>8 - x) (0) ?_ ?_ ?_);exact (Nat.zero_le _);((try rw [val_0 hl]);simp [Sub,get,keepL]<;>fail);(try simp only [List.cons_append,List.nil_append]);refine pl_ ?_;intro j hj;(try simp only [List.cons_append,List.nil_append]);try simp only at hj)
  | refine g_ ?_
  | ((with_reducible refine And.intro ?_ ?_);(exact sv_uA_dc))
  | (refine DW.cond (by rfl) ?_ ?_<;>(first | exact i0_ | (refine ic_ ?_;intro hb)))
  | ((with_reducible refine FVg_cases ?_ ?_)<;>(intro hb;rw [hb];revert hb;(first | exact i0_ | (refine i_ ?_;intro hb))))
  | refine r_ ?_
  | refine k_ ?_
  | refine o_ ?_
  | refine f_ ?_
  | with_reducible intro b)
 all_goals first
 | (have hj8:j=8:=by omega
    subst hj8
    (first | exact fin_ | refine finq_ ?_);done)
 | (refine ⟨j+1,by omega,by omega,?_,?_⟩;(rw [or_step hl (show j<8 by omega)];simp [Sub,get]<;>first | done | (push_cast;omega) | fail);(exact sub_);done)
 | (exfalso;omega)
 | (trace_state;fail)
end
theorem uG_dc (b:Nat) (s:RS) (F:Own):(s.l.length<=2000000)->DC Tryz.prog 73 [.raw (.pointer (some ⟨b,0,none⟩))] ([.blk b [.sl ((s.l).map u8), .bool (s.k)]]++F) fun d G=>d = .int .u64 (numR s).1/\G = .blk b [.sl (((numR s).2.l).map u8), .bool ((numR s).2.k)]::F:=fun hl=>by
 by_cases h:8<=s.l.length
 · have:=uA_dc b s F ⟨h,hl⟩
   unfold numR;rw [if_pos h];exact this
 · refine (uB_dc b s F (by omega)).post_le fun d G ⟨hd,hG⟩=>⟨_,_,le.of_eq hd,hG▸OLe.blk (Les.cons (le.gs rfl) (Les.cons le.rfl_ Les.nil)),?_⟩
   unfold numR;rw [if_neg h];exact ⟨rfl,rfl⟩
attribute [local irreducible] numR
theorem nG_dc (b:Nat) (s:RS) (F:Own):(s.l.length<=2000000)->DC Tryz.prog 74 [.raw (.pointer (some ⟨b,0,none⟩))] ([.blk b [.sl ((s.l).map u8), .bool (s.k)]]++F) fun d G=>d = .int .i64 (intR s).1/\G = .blk b [.sl (((intR s).2.l).map u8), .bool ((intR s).2.k)]::F:=by
 intro hA
 have hl:=hA
 refine DC.bodyS (n_:=6) (show Tryz.prog.funcs[74]? = some Tryz.f74 by kernel_rfl) rfl rfl (by rfl) ?_
 simp only [env0,List.cons_append,List.nil_append]
 have kw:=ksIs [0,2]
 have ow:=ownIs []
 repeat' (first
  | refine g_ ?_
  | ((with_reducible refine And.intro ?_ ?_);(exact sv))
  | (refine DW.cond (by rfl) ?_ ?_<;>(first | exact i0_ | (refine ic_ ?_;intro hb)))
  | ((with_reducible refine FVg_cases ?_ ?_)<;>(intro hb;rw [hb];revert hb;(first | exact i0_ | (refine i_ ?_;intro hb))))
  | refine r_ ?_
  | refine k_ ?_
  | (refine p_ (uG_dc _ _ _) ?_;rintro d H1 ⟨rfl,rfl⟩<;>refine s_ ?_)
  | refine o_ ?_
  | refine f_ ?_
  | with_reducible intro b)
 all_goals first
 | (simp only [intR];(first | exact fin_ | refine finq_ ?_);done)
attribute [local irreducible] intR
theorem sv_manyG_dc {p:Prop} (h:p:=by first | exact sv | (rw [Int.tdiv_eq_ediv_of_nonneg (by omega)];omega) | fail):p:=h
theorem manyG_dc (b:Nat) (s:RS) (each:Int) (F:Own):(s.l.length<=2000000/\(1<=each/\each<=100))->DC Tryz.prog 75 [.raw (.pointer (some ⟨b,0,none⟩)), .int .i64 each] ([.blk b [.sl ((s.l).map u8), .bool (s.k)]]++F) fun d G=>d = .int .i64 (manyR each s).1/\G = .blk b [.sl (((manyR each s).2.l).map u8), .bool ((manyR each s).2.k)]::F:=by
 intro hA
 obtain ⟨hl,he⟩:=hA
 refine DC.bodyS (n_:=25) (show Tryz.prog.funcs[75]? = some Tryz.f75 by kernel_rfl) rfl rfl (by rfl) ?_
 simp only [env0,List.cons_append,List.nil_append]
 have kw:=ksIs [0,1,4,5,20]
 have ow:=ownIs []
 have hil:=intR_len s
 have hii:=intR_in s
 obtain ⟨hi1,hi2⟩:=hii
 have htd:0<=((intR s).2.l.length:Int).tdiv each/\((intR s).2.l.length:Int).tdiv each<=2000000:=tdiv_b (by omega) he.1
 repeat' (first
  | refine g_ ?_
  | ((with_reducible refine And.intro ?_ ?_);(exact sv_manyG_dc))
  | (refine DW.cond (by rfl) ?_ ?_<;>(first | exact i0_ | (refine ic_ ?_;intro hb)))
  | ((with_reducible refine FVg_cases ?_ ?_)<;>(intro hb;rw [hb];revert hb;(first | exact i0_ | (refine i_ ?_;intro hb))))
  | refine r_ ?_
  | refine k_ ?_
  | (refine p_ (nG_dc _ _ _) ?_ (ha:=by exact sv_manyG_dc);rintro d H1 ⟨rfl,rfl⟩<;>refine s_ ?_)
  | refine o_ ?_
  | refine f_ ?_
  | with_reducible intro b)
 all_goals first
 | ((have e:manyR each s=(0,⟨(intR s).2.l,true⟩):=by unfold manyR;exact if_pos (by first | (left;assumption) | (right;assumption) | (left;omega) | (right;omega)));rw [e];(first | exact fin_ | refine finq_ ?_);done)
 | ((have e:manyR each s=intR s:=by unfold manyR;exact if_neg (by rintro (q | q)<;>first | omega | (exact absurd q (by assumption))));rw [e];(first | exact fin_ | refine finq_ ?_);done)
 | (trace_state;fail)
theorem manyN_dc (b:Nat) (s:RS) (each:Int) (F:Own):(s.l.length<=2000000/\(1<=each/\each<=100))->DC Tryz.prog 75 [.raw (.pointer (some ⟨b,0,none⟩)), .int .i64 each] ([.blk b [.sl ((s.l).map u8), .bool (s.k)]]++F) fun d G=>∃ (n:Nat) (z:RS),(manyR each s=((n:Int),z)/\(n:Int) * each<=z.l.length/\z.l.length<=s.l.length)/\d = .int .i64 n/\G = .blk b [.sl ((z.l).map u8), .bool (z.k)]::F:=fun h=>by
 refine (manyG_dc b s each F h).mono fun d G ⟨hd,hG⟩=>?_
 obtain ⟨h1,h2⟩:=many_b h.2.1 s
 have e:(((manyR each s).1.toNat:Nat):Int)=(manyR each s).1:=by omega
 refine ⟨(manyR each s).1.toNat,(manyR each s).2,⟨by rw [e],by rw [e];exact h2,many_len each s⟩,by rw [e];exact hd,hG⟩
attribute [local irreducible] manyR
theorem sv_textD_dc {p:Prop} (h:p:=by first | exact sv | (simp [u8,V.one];omega) | (simp [u8,V.one]<;>fail) | fail):p:=h
section
attribute [local push_cast 2000] byteOf_map isU8_map takeMap dropMap takeLen
theorem textD_dc (b:Nat) (s:RS) (F:Own):(s.l.length<=2000000)->DC Tryz.prog 78 [.raw (.pointer (some ⟨b,0,none⟩))] ([.blk b [.sl ((s.l).map u8), .bool (s.k)]]++F) fun d G=>d = .str (textD s).1/\G = .blk b [.sl (((textD s).2.l).map u8), .bool ((textD s).2.k)]::F:=by
 intro hA
 have hl:=hA
 refine DC.bodyS (n_:=24) (show Tryz.prog.funcs[78]? = some Tryz.f78 by kernel_rfl) rfl rfl (by rfl) ?_
 simp only [env0,List.cons_append,List.nil_append]
 have kw:=ksIs [0,2,3,4]
 have ow:=ownIs []
 repeat' (first
  | refine g_ ?_
  | ((with_reducible refine And.intro ?_ ?_);(exact sv_textD_dc))
  | (refine DW.cond (by rfl) ?_ ?_<;>(first | exact i0_ | (refine ic_ ?_;intro hb)))
  | ((with_reducible refine FVg_cases ?_ ?_)<;>(intro hb;rw [hb];revert hb;(first | exact i0_ | (refine i_ ?_;intro hb))))
  | refine r_ ?_
  | refine k_ ?_
  | (refine p_ (manyN_dc _ _ _ _) ?_ (ha:=by exact sv_textD_dc);rintro d H1 ⟨n0,z0,⟨hm0,hn0,hz0⟩,rfl,rfl⟩<;>refine s_ ?_)
  | refine o_ ?_
  | refine f_ ?_
  | with_reducible intro b)
 all_goals first
 | (simp only [textD,hm0,Int.toNat_natCast,List.take_length];(first | exact fin_ | refine finq_ ?_);done)
 | (trace_state;fail)
end
theorem sv_dotD_dc {p:Prop} (h:p:=by first | exact sv | exact Nat.le_trans (intR_len _) hl | exact Nat.le_trans (intR_len _) (Nat.le_trans (intR_len _) hl) | fail):p:=h
theorem dotD_dc (b:Nat) (s:RS) (F:Own):(s.l.length<=2000000)->DC Tryz.prog 140 [.raw (.pointer (some ⟨b,0,none⟩))] ([.blk b [.sl ((s.l).map u8), .bool (s.k)]]++F) fun d G=>d = .agg [.int .i64 (dotR s).1.node, .int .i64 (dotR s).1.epoch, .int .i64 (dotR s).1.n]/\G = .blk b [.sl (((dotR s).2.l).map u8), .bool ((dotR s).2.k)]::F:=by
 intro hA
 have hl:=hA
 refine DC.bodyS (n_:=16) (show Tryz.prog.funcs[140]? = some Tryz.f140 by kernel_rfl) rfl rfl (by rfl) ?_
 simp only [env0,List.cons_append,List.nil_append]
 have kw:=ksIs [0,2,3,4,5]
 have ow:=ownIs [2]
 have rw_:=rsIs [.cell 2 72]
 repeat' (first
  | refine g_ ?_
  | ((with_reducible refine And.intro ?_ ?_);(exact sv_dotD_dc))
  | (refine DW.cond (by rfl) ?_ ?_<;>(first | exact i0_ | (refine ic_ ?_;intro hb)))
  | ((with_reducible refine FVg_cases ?_ ?_)<;>(intro hb;rw [hb];revert hb;(first | exact i0_ | (refine i_ ?_;intro hb))))
  | refine r_ ?_
  | refine k_ ?_
  | (refine p_ (nG_dc _ _ _) ?_ (ha:=by exact sv_dotD_dc);rintro d H1 ⟨rfl,rfl⟩<;>refine s_ ?_)
  | refine o_ ?_
  | refine f_ ?_
  | with_reducible intro b)
 all_goals first
 | (simp only [dotR];(first | exact fin_ | refine finq_ ?_);done)
attribute [local irreducible] dotR
section
attribute [local push_cast 2000] encDot
theorem dotsD_dc (b:Nat) (s:RS) (F:Own):(s.l.length<=2000000)->DC Tryz.prog 76 [.raw (.pointer (some ⟨b,0,none⟩))] ([.blk b [.sl ((s.l).map u8), .bool (s.k)]]++F) fun d G=>d = .sl ((rowD 24 dotR s).1.map encDot)/\G = .blk b [.sl (((rowD 24 dotR s).2.l).map u8), .bool ((rowD 24 dotR s).2.k)]::F:=by
 intro hA
 have hl:=hA
 refine DC.bodyS (n_:=17) (show Tryz.prog.funcs[76]? = some Tryz.f76 by kernel_rfl) rfl rfl (by rfl) ?_
 simp only [env0,List.map_nil,List.cons_append,List.nil_append]
 have kw:=ksIs [0,2,3,4,8]
 have ow:=ownIs []
 refine DW.tail0 3 ?_
 repeat' (first
  | ((with_reducible refine DW.loopB 0 (X:=Nat×Value×LDots×RS) (fun x=>iterL dotR x.1 x.2.2.1 x.2.2.2=rowD 24 dotR s/\x.2.2.1.length+x.1<=1000000/\x.2.2.2.l.length<=2000000) (fun x=>[(0, .raw (.pointer (some ⟨b,0,none⟩))),(3, .gs x.2.1 (x.2.2.1.map encDot)),(4, .int .i64 x.1)]) (fun x=>[.blk b [.sl ((x.2.2.2.l).map u8), .bool (x.2.2.2.k)], .tail 3 x.2.1]) (fun x=>x.1) ((n0, .slice none 0 0,[],z0)) ?_ ?_ ?_);exact (⟨by unfold rowD;rw [hm0];rfl,by simp only [List.length_nil];omega,by simp only;omega⟩);(simp [Sub,get,keepL]<;>fail);(try simp only [List.map_nil,List.cons_append,List.nil_append]);refine pl_ ?_;intro ⟨n,v,l,z⟩ ⟨h1,h2,h3⟩;(try simp only [List.map_nil,List.cons_append,List.nil_append]);simp only at h1 h2 h3)
  | refine g_ ?_
  | ((with_reducible refine And.intro ?_ ?_);(exact sv))
  | (refine DW.cond (by rfl) ?_ ?_<;>(first | exact i0_ | (refine ic_ ?_;intro hb)))
  | ((with_reducible refine FVg_cases ?_ ?_)<;>(intro hb;rw [hb];revert hb;(first | exact i0_ | (refine i_ ?_;intro hb))))
  | refine r_ ?_
  | refine k_ ?_
  | (refine p_ (manyN_dc _ _ _ _) ?_;rintro d H1 ⟨n0,z0,⟨hm0,hn0,hz0⟩,rfl,rfl⟩<;>refine s_ ?_)
  | (refine p_ (dotD_dc _ _ _) ?_;rintro d H1 ⟨rfl,rfl⟩<;>refine s_ ?_)
  | refine o_ ?_
  | refine f_ ?_
  | with_reducible intro b)
 all_goals first
 | (obtain ⟨q,rfl⟩:∃ q,n=q+1:=⟨n - 1,by omega⟩
    rw [iterL_s] at h1
    refine ⟨(q,b,l++[(dotR z).1],(dotR z).2),⟨h1,?_,Nat.le_trans (dotR_len z) h3⟩,?_,?_,?_⟩;(dsimp only;rw [List.length_append,List.length_singleton];omega);(dsimp only;omega);(simp [Sub,get,encDot]<;>first | done | (push_cast;omega) | fail);(dsimp only;(try simp only [List.map_append,List.map_cons,List.map_nil,encDot]);(exact sub_));done)
 | (have hn0:n=0:=by omega
    subst hn0
    rw [<-h1]
    simp only [iterL]
    refine ⟨_,_,le.gs rfl,⟨rfl,rfl⟩,?_⟩;(exact sub_);done)
 | (trace_state;fail)
end
end
end Go.Proofs.YtbmbcjmgjdnlnaaGreatDoor
