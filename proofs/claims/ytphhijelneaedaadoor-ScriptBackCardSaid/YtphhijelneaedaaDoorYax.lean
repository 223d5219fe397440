/- Events and their lines: words of a line, the line of an event, and that lines come back. Plain: no statement of the program. -/
import Derived.Test.YtphhijelneaedaaDoorSox
import Derived.Lib.AtoiAll
import Derived.Lib.AtoiTie
import Derived.Lib.Bytealg
namespace Go.Proofs.YtphhijelneaedaaDoor
open Go.RowKit
set_option linter.unusedSimpArgs false
set_option linter.unusedVariables false
set_option maxRecDepth 100000
section
abbrev YS:=List UInt8
def isPart (c:UInt8):Bool:=(decide (97<=c.toNat)&&decide (c.toNat<=122))||((decide (48<=c.toNat)&&decide (c.toNat<=57))||decide (c.toNat=45))
def sw:YS->YS->List YS
 | cur,[]=>if cur=[] then [] else [cur]
 | cur,c::s=>if isPart c=true then sw (cur++[c]) s else if cur=[] then sw [] s else cur::sw [] s
theorem sw_run:∀ (w cur s:YS),(∀ c∈w,isPart c=true)->sw cur (w++s)=sw (cur++w) s
 | [],cur,s,_=>by simp
 | c::w,cur,s,h=>by
  show (if isPart c=true then sw (cur++[c]) (w++s) else _)=_
  rw [if_pos (h c (List.mem_cons_self ..)),sw_run w _ s fun x hx=>h x (List.mem_cons_of_mem _ hx),List.append_assoc];rfl
theorem sw_cut {c:UInt8} {cur s:YS} (h:isPart c=false) (hc:cur≠[]):sw cur (c::s)=cur::sw [] s:=by
 show (if isPart c=true then _ else if cur=[] then _ else _)=_
 rw [if_neg (by rw [h];decide),if_neg hc]
theorem sw_gap {c:UInt8} {s:YS} (h:isPart c=false):sw [] (c::s)=sw [] s:=by
 show (if isPart c=true then _ else if ([]:YS)=[] then _ else _)=_
 rw [if_neg (by rw [h];decide),if_pos rfl]
theorem sw_end {cur:YS} (hc:cur≠[]):sw cur []=[cur]:=by
 show (if cur=[] then _ else _)=_
 rw [if_neg hc]
def okWord (w:YS):Prop:=w≠[]/\∀ c∈w,isPart c=true
theorem join_one (w:YS) (s:YS):Lib.join [w] s=w:=by simp [Lib.join,List.intercalate]
theorem join_two (w v:YS) (l:List YS) (s:YS):Lib.join (w::v::l) s=w++(s++Lib.join (v::l) s):=by
 simp [Lib.join,List.intercalate]
theorem sw_join:∀ (ws:List YS),(∀ w∈ws,okWord w)->sw [] (Lib.join ws [32])=ws
 | [],_=>rfl
 | [w],h=>by
  have hw:=h w (List.mem_cons_self ..)
  rw [join_one]
  have:=sw_run w [] [] hw.2
  rw [List.append_nil,List.nil_append] at this
  rw [this,sw_end hw.1]
 | w::v::l,h=>by
  have hw:=h w (List.mem_cons_self ..)
  have ih:=sw_join (v::l) fun x hx=>h x (List.mem_cons_of_mem _ hx)
  rw [join_two,sw_run w [] _ hw.2,List.nil_append]
  show sw w (32::Lib.join (v::l) [32])=_
  rw [sw_cut (by decide) hw.1,ih]
def splC (x:UInt8):YS->List YS
 | []=>[[]]
 | c::l=>if c=x then []::splC x l else (c::(splC x l).headD [])::(splC x l).tail
theorem splC_cons (x:UInt8) (l:YS):splC x l=(splC x l).headD []::(splC x l).tail:=by
 cases l with
 | nil=>rfl
 | cons c l=>unfold splC;split<;>rfl
theorem splC_none {x:UInt8}:∀ {l:YS},(∀ k:Nat,l[k]? ≠ some x)->splC x l=[l]
 | [],_=>rfl
 | c::l,h=>by
  have h0:c≠x:=fun e=>h 0 (by simp [e])
  unfold splC;rw [if_neg h0,splC_none fun k=>by have:=h (k+1);simpa using this];rfl
theorem splC_hit {x:UInt8}:∀ {l:YS} {i:Nat},l[i]? = some x->(∀ k:Nat,k<i->l[k]? ≠ some x)->splC x l=l.take i::splC x (l.drop (i+1))
 | [],i,h,_=>by simp at h
 | c::l,0,h,_=>by
  have:c=x:=by simpa using h
  conv=>lhs;unfold splC
  rw [if_pos this];simp
 | c::l,i+1,h,h2=>by
  have h0:c≠x:=fun e=>h2 0 (by omega) (by simp [e])
  have ih:=splC_hit (l:=l) (i:=i) (by simpa using h) fun k hk=>by have:=h2 (k+1) (by omega);simpa using this
  conv=>lhs;unfold splC
  rw [if_neg h0,ih];simp
theorem splC_app {x:UInt8} {a b:YS} (h:∀ c∈a,c≠x):splC x (a++x::b)=a::splC x b:=by
 have:=splC_hit (x:=x) (l:=a++x::b) (i:=a.length) (by simp) fun k hk e=>by
  rw [List.getElem?_append_left hk] at e
  exact h x (List.mem_of_getElem? e) rfl
 rw [this];simp
def okNum (s:YS):Prop:=∃ v,Lib.atoiAll s = .ok v
def numV (s:YS):Int:=match Lib.atoiAll s with | .ok v=>v | _=>0
theorem num_ok {s:YS} (h:okNum s):Lib.atoiAll s = .ok (numV s):=by
 obtain ⟨v,hv⟩:=h
 rw [hv];unfold numV;rw [hv]
def inY (v:Int):Bool:=decide (0<=v)&&decide (v<=2147483647)
def numB (s:YS):Bool:=inY (numV s)&&(Lib.itoa (numV s)==s)
theorem dec_step (u:Nat) (h:¬ u<10):Lib.decDigits u=Lib.decDigits (u / 10)++[UInt8.ofNat (48+u%10)]:=by rw [Lib.decDigits,dif_neg h]
theorem parse_app:∀ (l:YS) (acc u:Nat) (d:Nat),d<10->Lib.parseUint10 acc l = .ok u->u<1000000000000->Lib.parseUint10 acc (l++[UInt8.ofNat (48+d)]) = .ok (u * 10+d)
 | [],acc,u,d,hd,h,hu=>by
  have e:acc=u:=by simpa [Lib.parseUint10] using h
  subst e
  have e1:(UInt8.ofNat (48+d)).toNat=48+d:=by simp [UInt8.toNat_ofNat];omega
  show (if 48<=(UInt8.ofNat (48+d)).toNat/\(UInt8.ofNat (48+d)).toNat<=57 then _ else _)=_
  rw [e1,if_pos (by omega),if_neg (by omega),if_neg (by omega)]
  show Lib.NumEnd.ok _=_
  rw [show acc * 10+(48+d - 48)=acc * 10+d by omega]
 | c::l,acc,u,d,hd,h,hu=>by
  have h:(if 48<=c.toNat/\c.toNat<=57 then (if 1844674407370955162<=acc then Lib.NumEnd.range else if 18446744073709551616<=acc * 10+(c.toNat - 48) then Lib.NumEnd.range else Lib.parseUint10 (acc * 10+(c.toNat - 48)) l) else Lib.NumEnd.syntax) = .ok u:=h
  show (if 48<=c.toNat/\c.toNat<=57 then (if 1844674407370955162<=acc then Lib.NumEnd.range else if 18446744073709551616<=acc * 10+(c.toNat - 48) then Lib.NumEnd.range else Lib.parseUint10 (acc * 10+(c.toNat - 48)) (l++[UInt8.ofNat (48+d)])) else Lib.NumEnd.syntax)=_
  split at h
  · rename_i h1
    rw [if_pos h1]
    split at h
    · cases h
    · rename_i h2
      rw [if_neg h2]
      split at h
      · cases h
      · rename_i h3
        rw [if_neg h3]
        exact parse_app l _ u d hd h hu
  · cases h
theorem dec_facts:∀ (n u:Nat),u<=n->u<1000000000000->(Lib.decDigits u≠[]/\(∀ c∈Lib.decDigits u,48<=c.toNat/\c.toNat<=57))/\Lib.parseUint10 0 (Lib.decDigits u) = .ok u:=by
 intro n
 induction n with
 | zero =>
  intro u h _
  obtain rfl:u=0:=by omega
  rw [Lib.decDigits_one (by decide)]
  exact ⟨⟨by simp,by simp⟩,by decide⟩
 | succ n ih =>
  intro u h hu
  by_cases h0:u<10
  · rw [Lib.decDigits_one h0]
    have e1:(UInt8.ofNat (48+u)).toNat=48+u:=by simp [UInt8.toNat_ofNat];omega
    refine ⟨⟨by simp,fun c hc=>?_⟩,?_⟩
    · rw [List.mem_singleton] at hc;subst hc;rw [e1];omega
    · have:=parse_app [] 0 0 u h0 rfl (by decide)
      simpa using this
  · obtain ⟨⟨h1,h2⟩,h3⟩:=ih (u / 10) (by omega) (by omega)
    rw [dec_step u h0]
    have e1:(UInt8.ofNat (48+u%10)).toNat=48+u%10:=by simp [UInt8.toNat_ofNat];omega
    refine ⟨⟨by simp,fun c hc=>?_⟩,?_⟩
    · rcases List.mem_append.1 hc with hc | hc
      · exact h2 c hc
      · rw [List.mem_singleton] at hc;subst hc;rw [e1];omega
    · have:=parse_app _ 0 _ (u%10) (by omega) h3 (by omega)
      rw [this,show u / 10 * 10+u%10=u by omega]
theorem itoa_pos {v:Int} (h0:0<=v):Lib.itoa v=Lib.decDigits v.toNat:=by unfold Lib.itoa;rw [if_neg (by omega)]
theorem itoa_word {v:Int} (h0:0<=v) (h1:v<=2147483647):okWord (Lib.itoa v):=by
 obtain ⟨⟨h2,h3⟩,_⟩:=dec_facts v.toNat v.toNat (Nat.le_refl _) (by omega)
 rw [itoa_pos h0]
 refine ⟨h2,fun c hc=>?_⟩
 have:=h3 c hc
 simp only [isPart,Bool.or_eq_true,Bool.and_eq_true,decide_eq_true_eq]
 exact .inr (.inl this)
theorem itoa_back {v:Int} (h0:0<=v) (h1:v<=2147483647):Lib.atoiAll (Lib.itoa v) = .ok v:=by
 obtain ⟨⟨h2,h3⟩,h4⟩:=dec_facts v.toNat v.toNat (Nat.le_refl _) (by omega)
 rw [itoa_pos h0]
 generalize hl:Lib.decDigits v.toNat=l at h2 h3 h4
 cases l with
 | nil=>exact absurd rfl h2
 | cons c r =>
  have hc:=h3 c (List.mem_cons_self ..)
  unfold Lib.atoiAll
  simp only
  rw [if_neg (by omega)]
  unfold Lib.parseMag
  rw [if_neg (by simp),h4]
  simp only
  rw [if_neg (by omega),if_neg (by omega),if_neg (by omega)]
  rw [Int.toNat_of_nonneg h0]
theorem itoa_numV {v:Int} (h0:0<=v) (h1:v<=2147483647):okNum (Lib.itoa v)/\numV (Lib.itoa v)=v/\numB (Lib.itoa v)=true:=by
 have h:=itoa_back h0 h1
 have e:numV (Lib.itoa v)=v:=by unfold numV;rw [h]
 refine ⟨⟨v,h⟩,e,?_⟩
 unfold numB inY
 rw [e];simp;omega
def digsY:YS:=[48,49,50,51,52,53,54,55,56,57,97,98,99,100,101,102]
def hexD (k:Nat):UInt8:=digsY.getD k 0
def hexB (c:UInt8):YS:=[hexD (c.toNat / 16),hexD (c.toNat%16)]
def hexW (b:YS):YS:=if b=[] then [45] else b.flatMap hexB
def unD (c:UInt8):Nat:=(Lib.indexByte digsY c).toNat
def unH:YS->YS
 | a::c::l=>UInt8.ofNat (unD a * 16+unD c)::unH l
 | _=>[]
def unhex (s:YS):YS:=if s=[45] then [] else unH s
theorem unD_hexD:∀ k,k<16->Lib.indexByte digsY (hexD k)=k:=by decide
theorem hexD_part:∀ k,k<16->isPart (hexD k)=true/\hexD k≠45/\hexD k≠10/\hexD k≠32:=by decide
theorem u8_split (c:UInt8):UInt8.ofNat (c.toNat / 16 * 16+c.toNat%16)=c:=by
 rw [show c.toNat / 16 * 16+c.toNat%16=c.toNat by omega];simp
theorem c16 (c:UInt8):c.toNat / 16<16/\c.toNat%16<16:=by have:=c.toNat_lt;omega
theorem unH_hex:∀ b:YS,unH (b.flatMap hexB)=b
 | []=>rfl
 | c::b=>by
  have:=c16 c
  show unH (hexD _::hexD _::b.flatMap hexB)=_
  unfold unH
  rw [unH_hex b]
  unfold unD
  rw [unD_hexD _ this.1,unD_hexD _ this.2,Int.toNat_natCast,Int.toNat_natCast,u8_split]
theorem hexW_back (b:YS):unhex (hexW b)=b:=by
 unfold hexW
 split
 · rename_i h;rw [h];rfl
 · rename_i h
   unfold unhex
   rw [if_neg,unH_hex]
   cases b with
   | nil=>exact absurd rfl h
   | cons c b=>intro e;have:=congrArg List.length e;simp [hexB] at this
theorem hexW_word (b:YS):okWord (hexW b):=by
 unfold hexW
 split
 · exact ⟨by simp,by decide⟩
 · rename_i h
   refine ⟨?_,fun c hc=>?_⟩
   · cases b with
     | nil=>exact absurd rfl h
     | cons c b=>simp [hexB]
   · obtain ⟨x,hx,hc⟩:=List.mem_flatMap.1 hc
     have:=c16 x
     simp only [hexB,List.mem_cons,List.not_mem_nil,or_false] at hc
     rcases hc with rfl | rfl
     · exact (hexD_part _ this.1).1
     · exact (hexD_part _ this.2).1
theorem getD_inY {α:Type} [Inhabited α] {l:List α} {i:Nat} {d:α} (h:i<l.length):l.getD i d∈l:=by
 rw [List.getD_eq_getElem?_getD,List.getElem?_eq_getElem h];exact List.getElem_mem h
structure Ev where
 kind:Int
 node:Int
 conn:Int
 n:Int
 b:YS
 deriving Inhabited
def kindsY:List (YS×YS):=[([111,112,101,110],[110,99]),([98,121,116,101,115],[110,99,120]),([108,111,115,116],[110,99]),([116,105,99,107],[]),([97,114,114,105,118,101],[107]),([116,119,105,99,101],[107]),([100,114,111,112],[107]),([99,114,97,115,104],[110]),([115,116,97,114,116],[110]),([115,112,108,105,116],[107])]
def kindY (k:Int):YS×YS:=kindsY.getD k.toNat default
def hasY (k:Int) (c:UInt8):Bool:=(kindY k).2.contains c
def rightY (e:Ev):Bool:=((decide (0<=e.kind)&&decide (e.kind<10))&&(inY e.node&&(inY e.conn&&inY e.n)))&&((hasY e.kind 110||decide (e.node=0))&&((hasY e.kind 99||decide (e.conn=0))&&((hasY e.kind 107||decide (e.n=0))&&(hasY e.kind 120||decide (e.b=[])))))
def wordY (e:Ev) (c:UInt8):YS:=if c=110 then Lib.itoa e.node else if c=99 then Lib.itoa e.conn else if c=107 then Lib.itoa e.n else hexW e.b
def wordsY (e:Ev):List YS:=(kindY e.kind).1::(kindY e.kind).2.map (wordY e)
def lineY (e:Ev):YS:=Lib.join (wordsY e) [32]++[10]
def printY (l:List Ev):YS:=(l.filter rightY).flatMap lineY
def setY (e:Ev) (c:UInt8) (s:YS):Ev:=if c=120 then { e with b:=unhex s } else if c=110 then { e with node:=numV s } else if c=99 then { e with conn:=numV s } else if c=107 then { e with n:=numV s } else e
def okY (c:UInt8) (s:YS):Bool:=if c=120 then true else numB s
def fitY (c:UInt8) (s:YS):Prop:=if c=120 then s=hexW (unhex s) else okNum s
def foldY (e:Ev) (spec:YS) (ws:List YS):Nat->Ev
 | 0=>e
 | i+1=>setY (foldY e spec ws i) (spec.getD i 0) (ws.getD (1+i) [])
def allY (spec:YS) (ws:List YS) (i:Nat):Bool:=(List.range i).all fun j=>okY (spec.getD j 0) (ws.getD (1+j) [])
def isK (ws:List YS) (k:Nat):Bool:=decide ((kindsY.getD k default).1=ws.getD 0 [])&&decide (ws.length=1+(kindsY.getD k default).2.length)
def evK (ws:List YS) (k:Nat):Ev×Bool:=let sp:=(kindsY.getD k default).2;if allY sp ws sp.length=true then (foldY ⟨k,0,0,0,[]⟩ sp ws sp.length,true) else (default,false)
def evY (ws:List YS):Ev×Bool:=match (List.range 10).find? (isK ws) with | some k=>evK ws k | none=>(default,false)
def FitE (ws:List YS):Prop:=∀ k,k<10->isK ws k=true->∀ i,i<(kindsY.getD k default).2.length->fitY ((kindsY.getD k default).2.getD i 0) (ws.getD (1+i) [])
theorem find_first {p:Nat->Bool} {k n:Nat} (hk:k<n) (h:p k=true) (h0:∀ j,j<k->p j=false):(List.range n).find? p=some k:=by
 rw [List.find?_eq_some_iff_getElem]
 refine ⟨h,k,by simpa using hk,by simp,fun j hj=>?_⟩
 simp [h0 j hj]
theorem find_none {p:Nat->Bool} {n:Nat} (h0:∀ j,j<n->p j=false):(List.range n).find? p=none:=by
 rw [List.find?_eq_none]
 intro x hx
 rw [h0 x (List.mem_range.1 hx)];decide
theorem evY_hit {ws:List YS} {k:Nat} (hk:k<10) (h:isK ws k=true) (h0:∀ j,j<k->isK ws j=false):evY ws=evK ws k:=by
 unfold evY;rw [find_first hk h h0]
theorem evY_miss {ws:List YS} (h0:∀ j,j<10->isK ws j=false):evY ws=(default,false):=by
 unfold evY;rw [find_none h0]
def parseY:List YS->Nat->List Ev->List Ev×Nat×Int
 | [],_,out=>(out,0,0)
 | x::xs,i,out=>if sw [] x=[] then parseY xs (i+1) out else if (evY (sw [] x)).2=true then parseY xs (i+1) (out++[(evY (sw [] x)).1]) else ([],i,33)
def FitL (ls:List YS):Prop:=∀ x∈ls,sw [] x≠[]->FitE (sw [] x)
theorem right_k {e:Ev} (h:rightY e=true):∃ k:Nat,k<10/\e.kind=k:=by
 simp only [rightY,Bool.and_eq_true,decide_eq_true_eq] at h
 exact ⟨e.kind.toNat,by omega,by omega⟩
theorem words_ok {e:Ev} (h:rightY e=true):∀ w∈wordsY e,okWord w:=by
 obtain ⟨k,hk,ek⟩:=right_k h
 simp only [rightY,Bool.and_eq_true,inY,decide_eq_true_eq] at h
 obtain ⟨⟨_,h1,h2,h3⟩,_⟩:=h
 have hd:∀ k,k<10->okWord (kindsY.getD k default).1:=by
  intro k hk
  have:∀ k,k<10->((kindsY.getD k default).1≠[]/\∀ c∈(kindsY.getD k default).1,isPart c=true):=by decide
  exact this k hk
 intro w hw
 rcases List.mem_cons.1 hw with rfl | hw
 · unfold kindY;rw [ek,Int.toNat_natCast];exact hd k hk
 · obtain ⟨c,_,rfl⟩:=List.mem_map.1 hw
   unfold wordY
   split
   · exact itoa_word h1.1 h1.2
   · split
     · exact itoa_word h2.1 h2.2
     · split
       · exact itoa_word h3.1 h3.2
       · exact hexW_word e.b
theorem part_10 {c:UInt8} (h:isPart c=true):c≠10:=fun e=>by subst e;revert h;decide
theorem join_10:∀ (ws:List YS),(∀ w∈ws,okWord w)->∀ c∈Lib.join ws [32],c≠10
 | [],_,c,hc=>by simp [Lib.join,List.intercalate] at hc
 | [w],h,c,hc=>by
  rw [join_one] at hc
  exact part_10 ((h w (List.mem_cons_self ..)).2 c hc)
 | w::v::l,h,c,hc=>by
  rw [join_two] at hc
  rcases List.mem_append.1 hc with hc | hc
  · exact part_10 ((h w (List.mem_cons_self ..)).2 c hc)
  · rcases List.mem_append.1 hc with hc | hc
    · rw [List.mem_singleton] at hc;subst hc;decide
    · exact join_10 (v::l) (fun x hx=>h x (List.mem_cons_of_mem _ hx)) c hc
theorem lines_of:∀ (l:List Ev),(∀ e∈l,rightY e=true)->splC 10 (l.flatMap lineY)=l.map (fun e=>Lib.join (wordsY e) [32])++[[]]
 | [],_=>rfl
 | e::l,h=>by
  rw [List.flatMap_cons]
  unfold lineY
  rw [List.append_assoc]
  show splC 10 (Lib.join (wordsY e) [32]++10::l.flatMap lineY)=_
  rw [splC_app (join_10 _ (words_ok (h e (List.mem_cons_self ..)))),lines_of l fun x hx=>h x (List.mem_cons_of_mem _ hx)]
  rfl
theorem ev_ext {e e':Ev} (h1:e.kind=e'.kind) (h2:e.node=e'.node) (h3:e.conn=e'.conn) (h4:e.n=e'.n) (h5:e.b=e'.b):e=e':=by
 cases e;cases e';simp only at *;subst h1;subst h2;subst h3;subst h4;subst h5;rfl
theorem ev_back {e:Ev} (h:rightY e=true):evY (wordsY e)=(e,true)/\FitE (wordsY e):=by
 obtain ⟨k,hk,ek⟩:=right_k h
 have hr:=h
 simp only [rightY,Bool.and_eq_true,Bool.or_eq_true,inY,decide_eq_true_eq] at h
 obtain ⟨⟨_,h1,h2,h3⟩,g1,g2,g3,g4⟩:=h
 have n1:=itoa_numV h1.1 h1.2
 have n2:=itoa_numV h2.1 h2.2
 have n3:=itoa_numV h3.1 h3.2
 have n4:=hexW_back e.b
 have hlen:(wordsY e).length=1+(kindsY.getD k default).2.length:=by
  unfold wordsY kindY;rw [ek,Int.toNat_natCast,List.length_cons,List.length_map,Nat.add_comm]
 have hhd:(wordsY e).getD 0 []=(kindsY.getD k default).1:=by
  unfold wordsY kindY;rw [ek,Int.toNat_natCast];rfl
 have hne:∀ i,i<10->∀ j,j<10->(kindsY.getD i default).1=(kindsY.getD j default).1->i=j:=by decide
 have hk1:isK (wordsY e) k=true:=by
  unfold isK;rw [hhd,hlen];simp
 have hk0:∀ j,j<10->j≠k->isK (wordsY e) j=false:=fun j hj hjk=>by
  unfold isK
  rw [hhd,decide_eq_false fun e=>hjk (hne j hj k hk e)];rfl
 refine ⟨?_,fun j hj hjk i hi=>?_⟩
 · rw [evY_hit hk hk1 fun j hj=>hk0 j (by omega) (by omega)]
   unfold wordsY kindY
   rw [ek,Int.toNat_natCast]
   rw [ek] at g1 g2 g3 g4
   have key:∀ sp hd:YS,kindsY.getD k default=(hd,sp)->True:=fun _ _ _=>trivial
   match k,hk with
   | 0,_ | 1,_ | 2,_ | 3,_ | 4,_ | 5,_ | 6,_ | 7,_ | 8,_ | 9,_ =>
    simp only [hasY,kindY] at g1 g2 g3 g4
    simp (config:={ decide:=true }) [kindsY] at g1 g2 g3 g4
    simp (config:={ decide:=true }) [evK,kindsY,allY,List.range_succ,okY,wordY,foldY,setY,n1,n2,n3,n4]
    refine ev_ext ?_ ?_ ?_ ?_ ?_<;>simp_all
 · have:j=k:=by
    apply Classical.byContradiction;intro hne;rw [hk0 j hj hne] at hjk;cases hjk
   subst this
   have e1:(wordsY e).getD (1+i) []=wordY e ((kindsY.getD j default).2.getD i 0):=by
    unfold wordsY kindY
    rw [ek,Int.toNat_natCast,Nat.add_comm,List.getD_cons_succ]
    generalize (kindsY.getD j default).2=sp at hi ⊢
    rw [List.getD_eq_getElem?_getD,List.getElem?_map,List.getD_eq_getElem?_getD,List.getElem?_eq_getElem hi]
    rfl
   rw [e1]
   unfold fitY wordY
   split
   · rename_i hx
     rw [hx,if_neg (by decide),if_neg (by decide),if_neg (by decide),n4]
   · split
     · exact n1.1
     · split
       · exact n2.1
       · split
         · exact n3.1
         · rename_i a1 a2 a3 a4
           have:∀ j,j<10->∀ c∈(kindsY.getD j default).2,c=120\/c=110\/c=99\/c=107:=by decide
           rcases this j hj _ (getD_inY hi) with h | h | h | h
           · exact absurd h a1
           · exact absurd h a2
           · exact absurd h a3
           · exact absurd h a4
theorem lines_fit (l:List Ev) (h:∀ e∈l,rightY e=true):FitL (l.map (fun e=>Lib.join (wordsY e) [32])++[[]]):=fun x hx hne=>by
 rcases List.mem_append.1 hx with hx | hx
 · obtain ⟨e,he,rfl⟩:=List.mem_map.1 hx
   rw [sw_join _ (words_ok (h e he))]
   exact (ev_back (h e he)).2
 · rw [List.mem_singleton] at hx;subst hx;exact absurd rfl hne
theorem lines_back:∀ (l:List Ev) (i:Nat) (out:List Ev),(∀ e∈l,rightY e=true)->parseY (l.map (fun e=>Lib.join (wordsY e) [32])++[[]]) i out=(out++l,0,0)
 | [],i,out,_=>by
  show (if sw [] []=[] then parseY [] (i+1) out else _)=_
  rw [if_pos (show sw [] []=[] from rfl),List.append_nil];rfl
 | e::l,i,out,h=>by
  have he:=h e (List.mem_cons_self ..)
  have h1:=(ev_back he).1
  rw [List.map_cons,List.cons_append]
  unfold parseY
  rw [sw_join _ (words_ok he),h1,if_neg (by unfold wordsY;simp),if_pos rfl,lines_back l (i+1) (out++[e]) fun x hx=>h x (List.mem_cons_of_mem _ hx)]
  simp
theorem print_back (l:List Ev):parseY (splC 10 (printY l)) 0 []=(l.filter rightY,0,0)/\FitL (splC 10 (printY l)):=by
 have hr:∀ e∈l.filter rightY,rightY e=true:=fun e he=>(List.mem_filter.1 he).2
 unfold printY
 rw [lines_of _ hr]
 exact ⟨by rw [lines_back _ 0 [] hr,List.nil_append],lines_fit _ hr⟩
end
end Go.Proofs.YtphhijelneaedaaDoor
