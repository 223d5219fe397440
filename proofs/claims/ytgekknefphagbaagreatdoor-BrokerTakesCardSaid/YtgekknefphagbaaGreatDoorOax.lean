/- The broker as plain data: what goes out, effects, connections, sessions; and as parts of what is owned. No statement of the program. -/
import Derived.Test.YtgekknefphagbaaGreatDoorJhx
import Derived.Test.YtgekknefphagbaaGreatDoorWhx
import Derived.Test.YtgekknefphagbaaGreatDoorItx
import Derived.Test.YtgekknefphagbaaGreatDoorTmx
import Derived.KernelRfl
import Derived.Test.YtgekknefphagbaaGreatDoorCzx
namespace Go.Proofs.YtgekknefphagbaaGreatDoor
open Go.RowKit
set_option linter.unusedSimpArgs false
set_option linter.unusedVariables false
set_option linter.unusedSectionVars false
set_option maxRecDepth 100000
section
theorem DC.frzY {P:Program} {f:FuncId} {args:List V} {H:Own} {X:Type} {Q:X->Prop} {sz:Nat} {l:X->List V} {L:X->Own} (hz:0<sz) (hl:∀ x,∀ y∈l x,y.n=sz)
  (h:DC P f args H fun d G=>∃ v x,d = .ar v (l x).length/\Q x/\G = .arr sz v (cells (l x))::L x):DC P f args H fun d G=>∃ x,Q x/\d = .sl (l x)/\G=L x :=
 ⟨h.1,fun xs w hs hn hr=>(h.2 xs w hs hn hr).mono fun e w' ⟨u,d,H',he,s,ex,r,v,x,hd,hq,hG⟩=>by
   subst hd hG
   obtain ⟨⟨g1,g2⟩,g3⟩:=Sim.frz (L1:=[]) s hz (hl x)
   have k1:Ext w' (.tail sz v::L x) w' (L x):=Ext.drop fun x hx=>List.mem_cons_of_mem _ hx
   have r1:R (stable w' (L x)) w' u (.gs v (l x)):=(R.cv g3 (Cv.hit _) (g2.rel r)).mono k1.cells
   exact ⟨u, .sl (l x),L x,he,g1.drop (List.sublist_cons_self _ _),(ex.trans g2).trans k1,le.gs rfl _ _ _ r1,x,hq,rfl,rfl⟩⟩
theorem DC.frzZ {P:Program} {f:FuncId} {args:List V} {H:Own} {Y:Type} {Q:Y->Prop} {sz:Nat} {l:Y->List V} {v:Y->Value} {D D':Y->V} {L:Y->Own} (hz:0<sz) (hl:∀ y,∀ x∈l y,x.n=sz) (hc:∀ y,Cv (v y) (l y) (D y) (D' y))
  (h:DC P f args H fun d G=>∃ y,Q y/\d=D y/\G = .arr sz (v y) (cells (l y))::L y):DC P f args H fun d G=>∃ y,Q y/\d=D' y/\G=L y :=
 ⟨h.1,fun xs w hs hn hr=>(h.2 xs w hs hn hr).mono fun e w' ⟨u,d,H',he,s,ex,r,y,hq,hd,hG⟩=>by
   subst hd hG
   obtain ⟨⟨g1,g2⟩,g3⟩:=Sim.frz (L1:=[]) s hz (hl y)
   have k1:Ext w' (.tail sz (v y)::L y) w' (L y):=Ext.drop fun x hx=>List.mem_cons_of_mem _ hx
   have r1:R (stable w' (L y)) w' u (D' y):=(R.cv g3 (hc y) (g2.rel r)).mono k1.cells
   exact ⟨u,D' y,L y,he,g1.drop (List.sublist_cons_self _ _),(ex.trans g2).trans k1,r1,y,hq,rfl,rfl⟩⟩
theorem DC.frzE {P:Program} {f:FuncId} {args:List V} {H:Own} {X:Type} {Q:X->Prop} {l1 l2 l3 l4:X->List V} {L:X->Own} (h1:∀ y,∀ x∈l1 y,x.n=4) (h2:∀ y,∀ x∈l2 y,x.n=4) (h3:∀ y,∀ x∈l3 y,x.n=1) (h4:∀ y,∀ x∈l4 y,x.n=1)
  (h:DC P f args H fun d G=>∃ (w1 w2 w3 w4:Value) (x:X),Q x/\d = .agg [.ar w1 (l1 x).length, .ar w2 (l2 x).length, .ar w3 (l3 x).length, .ar w4 (l4 x).length]/\G = .arr 4 w1 (cells (l1 x)) :: .arr 4 w2 (cells (l2 x)) :: .arr 1 w3 (cells (l3 x)) :: .arr 1 w4 (cells (l4 x))::L x) :
  DC P f args H fun d G=>∃ x,Q x/\d = .agg [.sl (l1 x), .sl (l2 x), .sl (l3 x), .sl (l4 x)]/\G=L x:=by
 have a1:DC P f args H fun d G=>∃ y:Value×Value×Value×Value×X,Q y.2.2.2.2/\d = .agg [.ar y.1 (l1 y.2.2.2.2).length, .ar y.2.1 (l2 y.2.2.2.2).length, .ar y.2.2.1 (l3 y.2.2.2.2).length, .ar y.2.2.2.1 (l4 y.2.2.2.2).length]/\G = .arr 4 y.1 (cells (l1 y.2.2.2.2)) :: .arr 4 y.2.1 (cells (l2 y.2.2.2.2)) :: .arr 1 y.2.2.1 (cells (l3 y.2.2.2.2)) :: .arr 1 y.2.2.2.1 (cells (l4 y.2.2.2.2))::L y.2.2.2.2 :=
  h.mono fun d G ⟨w1,w2,w3,w4,x,hq,hd,hG⟩=>⟨(w1,w2,w3,w4,x),hq,hd,hG⟩
 have a2:=DC.frzZ (Y:=Value×Value×Value×Value×X) (v:=fun y=>y.1) (l:=fun y=>l1 y.2.2.2.2) (D':=fun y=>.agg [.gs y.1 (l1 y.2.2.2.2), .ar y.2.1 (l2 y.2.2.2.2).length, .ar y.2.2.1 (l3 y.2.2.2.2).length, .ar y.2.2.2.1 (l4 y.2.2.2.2).length]) (by decide) (fun y=>h1 _) (fun y=>Cv.aggL (.cons (.hit _) (.cons (.rfl _) (.cons (.rfl _) (.cons (.rfl _) .nil))))) a1
 have a3:=DC.frzZ (Y:=Value×Value×Value×Value×X) (v:=fun y=>y.2.1) (l:=fun y=>l2 y.2.2.2.2) (D':=fun y=>.agg [.gs y.1 (l1 y.2.2.2.2), .gs y.2.1 (l2 y.2.2.2.2), .ar y.2.2.1 (l3 y.2.2.2.2).length, .ar y.2.2.2.1 (l4 y.2.2.2.2).length]) (by decide) (fun y=>h2 _) (fun y=>Cv.aggL (.cons (.rfl _) (.cons (.hit _) (.cons (.rfl _) (.cons (.rfl _) .nil))))) a2
 have a4:=DC.frzZ (Y:=Value×Value×Value×Value×X) (v:=fun y=>y.2.2.1) (l:=fun y=>l3 y.2.2.2.2) (D':=fun y=>.agg [.gs y.1 (l1 y.2.2.2.2), .gs y.2.1 (l2 y.2.2.2.2), .gs y.2.2.1 (l3 y.2.2.2.2), .ar y.2.2.2.1 (l4 y.2.2.2.2).length]) (by decide) (fun y=>h3 _) (fun y=>Cv.aggL (.cons (.rfl _) (.cons (.rfl _) (.cons (.hit _) (.cons (.rfl _) .nil))))) a3
 have a5:=DC.frzZ (Y:=Value×Value×Value×Value×X) (v:=fun y=>y.2.2.2.1) (l:=fun y=>l4 y.2.2.2.2) (D':=fun y=>.agg [.gs y.1 (l1 y.2.2.2.2), .gs y.2.1 (l2 y.2.2.2.2), .gs y.2.2.1 (l3 y.2.2.2.2), .gs y.2.2.2.1 (l4 y.2.2.2.2)]) (by decide) (fun y=>h4 _) (fun y=>Cv.aggL (.cons (.rfl _) (.cons (.rfl _) (.cons (.rfl _) (.cons (.hit _) .nil))))) a4
 refine DC.sub (a5.mono fun d G ⟨y,hq,hd,hG⟩=>?_)
 subst hd;subst hG
 exact ⟨_,_,le.agg (Les.cons (le.gs rfl) (Les.cons (le.gs rfl) (Les.cons (le.gs rfl) (Les.cons (le.gs rfl) Les.nil)))),⟨y.2.2.2.2,hq,rfl,rfl⟩,SubP.refl⟩
structure Ou where
 conn:Int
 bytes:YS
 close:Bool
 deriving Inhabited
def encOu (o:Ou):V:=.agg [.int .i64 0, .int .i64 o.conn, .sl (o.bytes.map u8), .bool o.close]
structure Ef where
 outs:List Ou
 pubs:List Mg
 adds:List YS
 drops:List YS
 deriving Inhabited
def zc5 (e:Ef):V:=.agg [.sl (e.outs.map encOu), .sl (e.pubs.map encM), .sl (e.adds.map V.str), .sl (e.drops.map V.str)]
noncomputable def outM (n:Int) (l:List Pk):List Ou:=(l.filter zaj).map fun p=>⟨n,putM p,false⟩
theorem zfP (n:Int):outM n []=[]:=rfl
theorem zk5 (n:Int) (a b:List Pk):outM n (a++b)=outM n a++outM n b:=by unfold outM;rw [List.filter_append,List.map_append]
theorem zoc {n:Int} {p:Pk} (h:zaj p=true):outM n [p]=[⟨n,putM p,false⟩]:=by unfold outM;rw [List.filter_cons_of_pos h];rfl
theorem outM_n {n:Int} {p:Pk} (h:zaj p=false):outM n [p]=[]:=by unfold outM;rw [List.filter_cons_of_neg (by rw [h];decide)];rfl
theorem zaI (n:Int) (l:List Pk):(outM n l).length<=l.length:=by unfold outM;rw [List.length_map];exact List.length_filter_le ..
theorem outM_sy {n:Int} {l:List Pk} {k:Nat} (hk:k<l.length) (h:zaj (l.getD k default)=true):outM n (l.take (k+1))=outM n (l.take k)++[⟨n,putM (l.getD k default),false⟩]:=by
 have e:l.take (k+1)=l.take k++[l.getD k default]:=by
  rw [List.take_add_one,List.getElem?_eq_getElem hk,List.getD_eq_getElem?_getD,List.getElem?_eq_getElem hk];rfl
 rw [e,zk5,zoc h]
theorem outM_sn {n:Int} {l:List Pk} {k:Nat} (hk:k<l.length) (h:zaj (l.getD k default)=false):outM n (l.take (k+1))=outM n (l.take k):=by
 have e:l.take (k+1)=l.take k++[l.getD k default]:=by
  rw [List.take_add_one,List.getElem?_eq_getElem hk,List.getD_eq_getElem?_getD,List.getElem?_eq_getElem hk];rfl
 rw [e,zk5,outM_n h,List.append_nil]
def zaK (l:List YS):List YS:=Go.Lib.compact (sortS l)
theorem zab (l:List YS):(zaK l).length<=l.length:=by unfold zaK;exact Nat.le_trans (Go.Lib.compact_length_le _) (Nat.le_of_eq (zeb l))
def andM (a b:Ef):Ef:=⟨a.outs++b.outs,a.pubs++b.pubs,a.adds++b.adds,zaK (a.drops++b.drops)⟩
structure EfN (e:Ef):Prop where
 outs:e.outs.length<=1000000000
 pubs:e.pubs.length<=1000000000
 adds:e.adds.length<=1000000000
 drops:e.drops.length<=1000000000
structure CP where
 n:Int
 left:YS
 bad:Int
 heard:Int
 s:Option YS
 keep:Int
 clean:Bool
 will:List Mg
 deriving Inhabited
structure Br where
 conns:List CP
 sess:List SA
 L:TL
 deriving Inhabited
def Br.conn (b:Br) (n:Int):Option CP:=b.conns.find? fun c=>c.n==n
def Br.ses (b:Br) (nm:YS):Option SA:=b.sess.find? fun a=>a.name==nm
def Br.off (b:Br) (n:Int):Br:={ b with conns:=b.conns.filter fun c=>c.n != n }
def newB:Br:=⟨[],[],[]⟩
def newC (n now:Int):CP:=⟨n,[],0,zbf now,none,0,false,[]⟩
def zcX (n now:Int) (b:Br):Br:=if n<0\/16<=n\/(b.conn n).isSome=true then b else { b with conns:=b.conns++[newC n now] }
def zcu (n:Int) (b:Br):YS:=((b.conn n).bind (·.s)).getD []
def fgS (nm:YS) (a:List YS×TL) (f:YS):List YS×TL:=(if (zcl (za0 (f,nm) a.2) f).length=0 then a.1++[f] else a.1,za0 (f,nm) a.2)
def zal (nm:YS) (l:List (YS×Int)) (L:TL):List YS×TL:=l.foldl (fun a e=>fgS nm a e.1) ([],L)
theorem ziq {nm:YS} {l:List (YS×Int)} {L:TL} {k:Nat} (hk:k<l.length):zal nm (l.take (k+1)) L=fgS nm (zal nm (l.take k) L) (l.getD k default).1:=by
 have e:l.take (k+1)=l.take k++[l.getD k default]:=by
  rw [List.take_add_one,List.getElem?_eq_getElem hk,List.getD_eq_getElem?_getD,List.getElem?_eq_getElem hk];rfl
 unfold zal
 rw [e,List.foldl_append];rfl
theorem zhX {α β:Type} [DecidableEq α] (k:α):∀ l:List (α×β),(za0 k l).length<=l.length
 | []=>Nat.le_refl _
 | x::l=>by
  unfold za0
  split
  · exact Nat.le_succ _
  · have:=zhX k l;simp only [List.length_cons];omega
theorem ze0 (nm:YS) (L:TL):∀ (l:List (YS×Int)) (a:List YS×TL),(l.foldl (fun a e=>fgS nm a e.1) a).2.length<=a.2.length/\(l.foldl (fun a e=>fgS nm a e.1) a).1.length<=a.1.length+l.length
 | [],a=>⟨Nat.le_refl _,Nat.le_refl _⟩
 | x::l,a=>by
  have h:=ze0 nm L l (fgS nm a x.1)
  have h1:(fgS nm a x.1).2.length<=a.2.length:=zhX _ _
  have h2:(fgS nm a x.1).1.length<=a.1.length+1:=by unfold fgS;simp only;split<;>simp
  simp only [List.foldl_cons,List.length_cons]
  omega
theorem zfw (nm:YS) (L:TL) (l:List (YS×Int)):(zal nm l L).2.length<=L.length:=(ze0 nm L l ([],L)).1
theorem zc9 (nm:YS) (L:TL) (l:List (YS×Int)):(zal nm l L).1.length<=l.length:=by have:=(ze0 nm L l ([],L)).2;simp at this;exact this
def zah (nm:YS) (b:Br):List YS×Br :=
 match b.ses nm with
 | none=>([],b)
 | some a=>((zal nm (zav a.subs) b.L).1,{ b with sess:=b.sess.filter (fun x=>x.name != nm),L:=(zal nm (zav a.subs) b.L).2 })
def nilE:Ef:=⟨[],[],[],[]⟩
def zbj (n:Int) (b:Br):Ef×Br :=
 match b.conn n with
 | none=>(nilE,b)
 | some c =>
  match c.s with
  | some nm=>if c.clean=true then ((⟨[],c.will,[],(zah nm (b.off n)).1⟩:Ef),(zah nm (b.off n)).2) else (⟨[],c.will,[],[]⟩,b.off n)
  | none=>(⟨[],c.will,[],[]⟩,b.off n)
def zae (n:Int) (b:Br):Ef×Br:=(andM ⟨[⟨n,[],true⟩],[],[],[]⟩ (zbj n b).1,(zbj n b).2)
def ofM (nm:YS) (b:Br):Int:=((b.conns.find? fun c=>c.s==some nm).map (·.n)).getD (-1)
structure Cn where
 n:Int
 b:Nat
 st:Nat
 left:YS
 bad:Int
 heard:Int
 s:Option (YS×Nat)
 keep:Int
 clean:Bool
 will:List Mg
 lv:V
 wv:V
def Cn.pl (c:Cn):CP:=⟨c.n,c.left,c.bad,c.heard,c.s.map (·.1),c.keep,c.clean,c.will⟩
def Cn.sv (c:Cn):V:=.raw (.pointer (c.s.map fun x=>⟨x.2,0,none⟩))
def Cn.cells (c:Cn):List V:=[.raw (.pointer (some ⟨c.st,0,none⟩)), .int .i64 c.heard,c.sv, .int .i64 c.keep, .bool c.clean,c.wv]
def Cn.own (c:Cn):Own:=[.blk c.b c.cells, .blk c.st [c.lv, .int .i64 c.bad]]
def ownC:List Cn->Own
 | []=>[]
 | c::l=>c.own++ownC l
def ownS:List SN->Own
 | []=>[]
 | x::l=>x.own++ownS l
theorem zad (l1 l2:List Cn) (c:Cn):ownC (l1++c::l2)=ownC l1++(c.own++ownC l2):=by
 induction l1 with
 | nil=>rfl
 | cons y l ih=>show y.own++ownC (l++c::l2)=y.own++ownC l++_;rw [ih,List.append_assoc]
theorem zdd (l1 l2:List Cn):ownC (l1++l2)=ownC l1++ownC l2:=by
 induction l1 with
 | nil=>rfl
 | cons y l ih=>show y.own++ownC (l++l2)=y.own++ownC l++_;rw [ih,List.append_assoc]
theorem zai (l1 l2:List SN) (c:SN):ownS (l1++c::l2)=ownS l1++(c.own++ownS l2):=by
 induction l1 with
 | nil=>rfl
 | cons y l ih=>show y.own++ownS (l++c::l2)=y.own++ownS l++_;rw [ih,List.append_assoc]
theorem zbA (l1 l2:List SN):ownS (l1++l2)=ownS l1++ownS l2:=by
 induction l1 with
 | nil=>rfl
 | cons y l ih=>show y.own++ownS (l++l2)=y.own++ownS l++_;rw [ih,List.append_assoc]
def kvC (cs:List Cn):List (Int×Nat):=cs.map fun c=>(c.n,c.b)
def kvS (ss:List SN):List (YS×Nat):=ss.map fun x=>(x.a.name,x.b)
structure BN where
 cm:Nat
 sm:Nat
 t:Nat
 ts:TS
 cs:List Cn
 ss:List SN
def BN.pl (s:BN):Br:=⟨s.cs.map Cn.pl,s.ss.map (·.a),s.ts.L⟩
def BN.maps (bb:Nat) (s:BN):Own:=[.blk bb [.raw (.map (some s.cm)), .raw (.map (some s.sm)), .raw (.pointer (some ⟨s.t,0,none⟩))], .map s.cm (entM (V.int .i64) pv (kvC s.cs)), .map s.sm (entM V.str pv (kvS s.ss))]
def ownB (bb:Nat) (s:BN):Own:=s.maps bb++(ownC s.cs++(ownS s.ss++ownT s.t s.ts))
structure CnOK (ss:List SN) (c:Cn):Prop where
 n:0<=c.n/\c.n<16
 heard : -1099511627776<=c.heard/\c.heard<=1099511627776
 keep : -1000000000<=c.keep/\c.keep<=1000000000
 will:c.will.length<=1
 wm:∀ m∈c.will,MgN m
 lv:(c.lv = .gs (.slice none 0 0) []/\c.left=[])\/c.lv = .sl (c.left.map u8)
 wv:(c.wv = .gs (.slice none 0 0) []/\c.will=[])\/c.wv = .sl (c.will.map encM)
 s:∀ e,c.s=some e->∃ x∈ss,x.a.name=e.1/\x.b=e.2
structure BOK (s:BN):Prop where
 t:TOK s.ts
 cn:(s.cs.map (·.n)).Nodup
 co:∀ c∈s.cs,CnOK s.ss c
 sn:(s.ss.map (·.a.name)).Nodup
 so:∀ x∈s.ss,SAOK x.a
 sq:∀ x∈s.ss,SAQ x.a
 sd:∀ c∈s.cs,∀ d∈s.cs,∀ e e',c.s=some e->d.s=some e'->e.1=e'.1->c.n=d.n
structure BSz (b:Br):Prop where
 L:b.L.length<=1000000000
 sub:∀ a∈b.sess,a.subs.length<=1000000/\∀ e∈a.subs,e.1.length<=1000000
theorem znf {cs:List Cn} {n:Int}:lookA n (kvC cs)=(cs.find? fun c=>c.n==n).map (·.b):=by
 induction cs with
 | nil=>rfl
 | cons c l ih =>
  show lookA n ((c.n,c.b)::kvC l)=_
  rw [zb7,ih,List.find?_cons]
  by_cases h:n=c.n
  · rw [if_pos h,show (c.n==n)=true from by simp [h]];rfl
  · rw [if_neg h,show (c.n==n)=false from by simp [Ne.symm h]]
theorem zg4 {ss:List SN} {nm:YS}:lookA nm (kvS ss)=(ss.find? fun x=>x.a.name==nm).map (·.b):=by
 induction ss with
 | nil=>rfl
 | cons c l ih =>
  show lookA nm ((c.a.name,c.b)::kvS l)=_
  rw [zb7,ih,List.find?_cons]
  by_cases h:nm=c.a.name
  · rw [if_pos h,show (c.a.name==nm)=true from by simp [h]];rfl
  · rw [if_neg h,show (c.a.name==nm)=false from by simpa using Ne.symm h]
theorem zq7 {l1 l2:List Cn} {c:Cn} (h:∀ d∈l1,d.n≠c.n):za0 c.n (kvC (l1++c::l2))=kvC (l1++l2):=by
 induction l1 with
 | nil=>show za0 c.n ((c.n,c.b)::kvC l2)=kvC l2;unfold za0;rw [if_pos rfl]
 | cons d l ih =>
  show za0 c.n ((d.n,d.b)::kvC (l++c::l2))=(d.n,d.b)::kvC (l++l2)
  unfold za0
  rw [if_neg (fun e=>h d List.mem_cons_self e.symm),ih fun x hx=>h x (List.mem_cons_of_mem _ hx)]
theorem zk8 {l1 l2:List SN} {c:SN} (h:∀ d∈l1,d.a.name≠c.a.name):za0 c.a.name (kvS (l1++c::l2))=kvS (l1++l2):=by
 induction l1 with
 | nil=>show za0 c.a.name ((c.a.name,c.b)::kvS l2)=kvS l2;unfold za0;rw [if_pos rfl]
 | cons d l ih =>
  show za0 c.a.name ((d.a.name,d.b)::kvS (l++c::l2))=(d.a.name,d.b)::kvS (l++l2)
  unfold za0
  rw [if_neg (fun e=>h d List.mem_cons_self e.symm),ih fun x hx=>h x (List.mem_cons_of_mem _ hx)]
theorem ze6 {l1 l2:List Cn} {c:Cn} (h:∀ d∈l1,d.n≠c.n):lookA c.n (kvC (l1++c::l2))=some c.b:=by
 induction l1 with
 | nil=>show lookA c.n ((c.n,c.b)::kvC l2)=_;rw [zb7,if_pos rfl]
 | cons d l ih =>
  show lookA c.n ((d.n,d.b)::kvC (l++c::l2))=_
  rw [zb7,if_neg (fun e=>h d List.mem_cons_self e.symm),ih fun x hx=>h x (List.mem_cons_of_mem _ hx)]
theorem zqK {l1 l2:List SN} {c:SN} (h:∀ d∈l1,d.a.name≠c.a.name):lookA c.a.name (kvS (l1++c::l2))=some c.b:=by
 induction l1 with
 | nil=>show lookA c.a.name ((c.a.name,c.b)::kvS l2)=_;rw [zb7,if_pos rfl]
 | cons d l ih =>
  show lookA c.a.name ((d.a.name,d.b)::kvS (l++c::l2))=_
  rw [zb7,if_neg (fun e=>h d List.mem_cons_self e.symm),ih fun x hx=>h x (List.mem_cons_of_mem _ hx)]
theorem zc0 {α β:Type} {g:α->β} {l:List α} (hn:(l.map g).Nodup) {c:α} (hc:c∈l):∃ l1 l2,l=l1++c::l2/\(∀ d∈l1,g d≠g c)/\∀ d∈l2,g d≠g c:=by
 obtain ⟨l1,l2,rfl⟩:=List.append_of_mem hc
 rw [List.map_append,List.map_cons,List.nodup_append,List.nodup_cons] at hn
 refine ⟨l1,l2,rfl,fun d hd e=>hn.2.2 (g d) (List.mem_map.2 ⟨d,hd,rfl⟩) (g c) List.mem_cons_self e,fun d hd e=>hn.2.1.1 (List.mem_map.2 ⟨d,hd,e⟩)⟩
theorem znp {α:Type} {p:α->Bool} {l1 l2:List α} {c:α} (h:∀ d∈l1,p d=false) (hc:p c=true):(l1++c::l2).find? p=some c:=by
 rw [List.find?_append,List.find?_eq_none.2 (fun x hx=>by rw [h x hx];decide),List.find?_cons_of_pos hc];rfl
theorem ziM {α:Type} {p:α->Bool} {l1 l2:List α} {c:α} (h:∀ d∈l1,p d=true) (h2:∀ d∈l2,p d=true) (hc:p c=false):(l1++c::l2).filter p=l1++l2:=by
 rw [List.filter_append,List.filter_cons_of_neg (by rw [hc];decide),List.filter_eq_self.2 h,List.filter_eq_self.2 h2]
theorem zmu {s:BN} {l1 l2:List Cn} {c:Cn} (hs:s.cs=l1++c::l2) (h1:∀ d∈l1,d.n≠c.n):s.pl.conn c.n=some c.pl:=by
 unfold Br.conn BN.pl
 simp only
 rw [hs,List.map_append,List.map_cons]
 exact znp (fun d hd=>by obtain ⟨x,hx,rfl⟩:=List.mem_map.1 hd;simpa [Cn.pl] using h1 x hx) (by simp [Cn.pl])
theorem pl_off {s:BN} {l1 l2:List Cn} {c:Cn} (hs:s.cs=l1++c::l2) (h1:∀ d∈l1,d.n≠c.n) (h2:∀ d∈l2,d.n≠c.n):s.pl.off c.n=BN.pl { s with cs:=l1++l2 }:=by
 unfold Br.off BN.pl
 simp only
 rw [hs,List.map_append,List.map_cons,List.map_append,ziM]
 · exact fun d hd=>by obtain ⟨x,hx,rfl⟩:=List.mem_map.1 hd;simpa [Cn.pl] using h1 x hx
 · exact fun d hd=>by obtain ⟨x,hx,rfl⟩:=List.mem_map.1 hd;simpa [Cn.pl] using h2 x hx
 · simp [Cn.pl]
theorem zdE {s:BN} {l1 l2:List SN} {y:SN} (hs:s.ss=l1++y::l2) (h1:∀ d∈l1,d.a.name≠y.a.name):s.pl.ses y.a.name=some y.a:=by
 unfold Br.ses BN.pl
 simp only
 rw [hs,List.map_append,List.map_cons]
 exact znp (fun d hd=>by obtain ⟨x,hx,rfl⟩:=List.mem_map.1 hd;simpa using h1 x hx) (by simp)
theorem zm7 {l1 l2:List SN} {y:SN} (h1:∀ d∈l1,d.a.name≠y.a.name) (h2:∀ d∈l2,d.a.name≠y.a.name):((l1++y::l2).map (·.a)).filter (fun x=>x.name != y.a.name)=(l1++l2).map (·.a):=by
 rw [List.map_append,List.map_cons,List.map_append,ziM]
 · exact fun d hd=>by obtain ⟨x,hx,rfl⟩:=List.mem_map.1 hd;simpa using h1 x hx
 · exact fun d hd=>by obtain ⟨x,hx,rfl⟩:=List.mem_map.1 hd;simpa using h2 x hx
 · simp
theorem BOK.off {s:BN} (h:BOK s) {l1 l2:List Cn} {c:Cn} (hs:s.cs=l1++c::l2):BOK { s with cs:=l1++l2 }:=by
 have hsub:(l1++l2).Sublist s.cs:=by rw [hs];exact (List.sublist_cons_self _ _).append_left _
 exact ⟨h.t,h.cn.sublist (hsub.map _),fun d hd=>h.co d (hsub.subset hd),h.sn,h.so,h.sq,fun a ha d hd=>h.sd a (hsub.subset ha) d (hsub.subset hd)⟩
theorem BOK.off2 {s:BN} (h:BOK s) {l1 l2:List Cn} {c:Cn} (hs:s.cs=l1++c::l2) {m1 m2:List SN} {y:SN} (hss:s.ss=m1++y::m2) (hc:c.s=some (y.a.name,y.b)) (h1:∀ d∈l1,d.n≠c.n) (h2:∀ d∈l2,d.n≠c.n) {ts:TS} (ht:TOK ts):BOK { s with cs:=l1++l2,ss:=m1++m2,ts:=ts }:=by
 have hsub:(l1++l2).Sublist s.cs:=by rw [hs];exact (List.sublist_cons_self _ _).append_left _
 have hsu2:(m1++m2).Sublist s.ss:=by rw [hss];exact (List.sublist_cons_self _ _).append_left _
 refine ⟨ht,h.cn.sublist (hsub.map _),fun d hd=>?_,h.sn.sublist (hsu2.map _),fun x hx=>h.so x (hsu2.subset hx),fun x hx=>h.sq x (hsu2.subset hx),fun a ha d hd=>h.sd a (hsub.subset ha) d (hsub.subset hd)⟩
 have ho:=h.co d (hsub.subset hd)
 refine ⟨ho.n,ho.heard,ho.keep,ho.will,ho.wm,ho.lv,ho.wv,fun e he=>?_⟩
 obtain ⟨x,hx,hx1,hx2⟩:=ho.s e he
 rw [hss] at hx
 rcases List.mem_append.1 hx with hx | hx
 · exact ⟨x,List.mem_append.2 (.inl hx),hx1,hx2⟩
 rcases List.mem_cons.1 hx with rfl | hx
 · exfalso
   have hcm:c∈s.cs:=by rw [hs];simp
   have:=h.sd c hcm d (hsub.subset hd) _ _ hc he hx1
   rcases List.mem_append.1 hd with hd | hd
   · exact h1 d hd this.symm
   · exact h2 d hd this.symm
 · exact ⟨x,List.mem_append.2 (.inr hx),hx1,hx2⟩
end
section
set_option maxHeartbeats 4000000
attribute [local irreducible] DW SeqD DV DOp DC DVX DVJ idsF usI sortS putM zaj onlyM
theorem ou_snoc (a:List Ou) (n:Int) (x:YS) (c:Bool):cells ((a++[(⟨n,x,c⟩:Ou)]).map encOu)=cells (a.map encOu)++[.int .i64 0, .int .i64 n, .sl (x.map u8), .bool c]:=by
 rw [List.map_append,zb2];rfl
theorem right_y {p:Pk} (h:(if zaj p=true then (0:Int) else 26)=0):zaj p=true:=by
 cases hr:zaj p with
 | true=>rfl
 | false=>rw [hr] at h;exact absurd h (by decide)
theorem right_n {p:Pk} (h:¬ (if zaj p=true then (0:Int) else 26)=0):zaj p=false:=by
 cases hr:zaj p with
 | false=>rfl
 | true=>rw [hr] at h;exact absurd rfl h
theorem zdv (z:Int) (F:Own):(True)->DC Tryz.prog 37 [.int .i64 z] (([]:Own)++F) fun d G=>d = .int .i64 (zbf z)/\G=[]++F:=by
 intro hA
 refine DC.bodyS (n_:=6) (show Tryz.prog.funcs[37]? = some Tryz.f37 by kernel_rfl) rfl rfl (by rfl) ?_
 simp only [env0,List.cons_append,List.nil_append]
 have kw:=ksIs [0,2]
 have ow:=zaf []
 repeat' (first
  | refine g_ ?_
  | ((with_reducible refine And.intro ?_ ?_);(exact sv))
  | (refine DW.cond (by rfl) ?_ ?_<;>(first | exact i0_ | (refine ic_ ?_;intro hb)))
  | ((with_reducible refine zaa ?_ ?_)<;>(intro hb;rw [hb];revert hb;(first | exact i0_ | (refine i_ ?_;intro hb))))
  | refine r_ ?_
  | refine k_ ?_
  | refine o_ ?_
  | refine f_ ?_
  | with_reducible intro b)
 all_goals first
 | (exact kxb5)
 | ((refine ⟨_,_,le.of_eq ?_,⟨rfl,rfl⟩,SubP.refl⟩);(unfold zbf;congr 1;omega))
 | (trace_state;fail)
theorem zhk {p:Prop} (h:p:=by first | exact sv | exact hs _ (by omega) | fail):p:=h
section
attribute [local push_cast 2000] zcG
theorem zow (n:Int) (l:List Pk) (F:Own):(l.length<=1000000000/\∀ k,k<l.length->SendK (l.getD k default))->DC Tryz.prog 42 [.int .i64 n, .sl (l.map zcG)] ([knF,knA]++F) fun d G=>∃ v,d = .ar v (outM n l).length/\G = .arr 4 v (cells ((outM n l).map encOu))::([knF,knA]++F):=by
 intro hA
 obtain ⟨hl,hs⟩:=hA
 refine DC.bodyS (n_:=31) (show Tryz.prog.funcs[42]? = some Tryz.f42 by kernel_rfl) rfl rfl (by rfl) ?_
 simp only [env0,List.take_zero,zfP,List.map_nil,zao,List.cons_append,List.nil_append]
 have kw:=ksIs [0,1,4,5,7,8,9,10,11,12,13,22]
 have ow:=zaf []
 repeat' (first
  | ((refine DW.own0 4 5 (by rfl) ?_);(simp only [zc1,zdn,Nat.reduceEqDiff,↓reduceIte,if_true,if_false,reduceCtorEq]);((with_reducible refine DW.loopB 0 (X:=Nat×Value) (fun x=>x.1<=l.length) (fun x=>[(0, .int .i64 n),(5, .ar x.2 (outM n (l.take x.1)).length),(10, .sl (l.map zcG)),(11, .int .i64 l.length),(12, .int .i64 x.1)]) (fun x=>.arr 4 x.2 (cells ((outM n (l.take x.1)).map encOu))::[knF,knA]) (fun x=>l.length - x.1) ((0, .slice none 0 0)) ?_ ?_ ?_);exact (Nat.zero_le _);(simp [Sub,get,zaP,zfP]<;>fail);(try simp only [List.take_zero,zfP,List.map_nil,zao,List.cons_append,List.nil_append]);refine pl_ ?_;intro ⟨k,v⟩ hk;(try simp only [List.take_zero,zfP,List.map_nil,zao,List.cons_append,List.nil_append]);(try simp only at hk);have hol:=Nat.le_trans (zaI n (l.take k)) (List.length_take_le ..)))
  | refine g_ ?_
  | ((with_reducible refine And.intro ?_ ?_);(exact zhk))
  | (refine DW.cond (by rfl) ?_ ?_<;>(first | exact i0_ | (refine ic_ ?_;intro hb)))
  | ((with_reducible refine zaa ?_ ?_)<;>(intro hb;rw [hb];revert hb;(first | exact i0_ | (refine i_ ?_;intro hb))))
  | refine r_ ?_
  | refine k_ ?_
  | (refine q_ (wput_dc _ _) ?_ (ha:=by exact zhk))
  | refine o_ ?_
  | refine f_ ?_
  | ((fail_if_success (have zz:=bx));with_reducible intro bx)
  | ((fail_if_success (have zz:=v2));with_reducible intro v2)
  | with_reducible intro b)
 all_goals first
 | (((have e:=outM_sy (n:=n) (show k<l.length by omega) (right_y hb));(refine ⟨(k+1,v2),by (try simp only);omega,by (try simp only);omega,?_,?_⟩);(focus ((try dsimp only);rw [e];simp [Sub,get]));((try dsimp only);rw [e,ou_snoc]);(exact sub_);done))
 | (((have e:=outM_sn (n:=n) (show k<l.length by omega) (right_n hb));(refine ⟨(k+1,v),by (try simp only);omega,by (try simp only);omega,?_,?_⟩);(focus ((try dsimp only);rw [e];simp [Sub,get]));((try dsimp only);rw [e]);(exact sub_);done))
 | (((have hkl:k=l.length:=by omega);(subst hkl);(rw [List.take_length]);(refine ⟨_,_,le.rfl_,⟨_,rfl,rfl⟩,?_⟩);(exact sub_);done))
 | (trace_state;fail)
end
theorem zmk (n:Int) (l:List Pk) (F:Own):(l.length<=1000000000/\∀ k,k<l.length->SendK (l.getD k default))->DC Tryz.prog 42 [.int .i64 n, .sl (l.map zcG)] ([knF,knA]++F) fun d G=>d = .sl ((outM n l).map encOu)/\G=[knF,knA]++F:=fun h =>
 (DC.frzX (X:=List Ou) (Q:=fun x=>x=outM n l) (sz:=4) (l:=fun x=>x.map encOu) (by decide) (fun x y hy=>by obtain ⟨z,_,rfl⟩:=List.mem_map.1 hy;rfl)
   ((zow n l F h).mono fun d G hd=>by
     obtain ⟨v,h1,h2⟩:=hd
     exact ⟨v,_,by rw [List.length_map];exact h1,rfl,h2⟩)).mono fun d G hd=>by
   obtain ⟨x,rfl,h1,h2⟩:=hd
   exact ⟨h1,h2⟩
end
section
set_option maxHeartbeats 4000000
attribute [local irreducible] DW SeqD DV DOp DC DVX DVJ idsF usI sortS putM zaj onlyM
theorem zpA (l:List Str) (v:Value) (n:Nat) (F:Own):(n=l.length/\l.length<=4000000000)->DC Tryz.prog 105 [.ar v n] ([.arr 1 v (l.map V.str)]++F) fun d G=>d = .tup []/\G=[.arr 1 v ((sortS l).map V.str)]++F:=fun h =>
 DC.sortS (by kernel_rfl) l v n F ⟨h.1,by omega⟩
theorem zqh (l:List Str) (v:Value) (n:Nat) (F:Own):(n=l.length/\l.length<=4000000000)->DC Tryz.prog 106 [.ar v n] ([.arr 1 v (l.map V.str)]++F) fun d G=>∃ v',d = .ar v' (Go.Lib.compact l).length/\G=[.arr 1 v' ((Go.Lib.compact l).map V.str)]++F:=fun h =>
 DC.compactS layCs (by kernel_rfl) l v n F ⟨h.1,by omega⟩
theorem zoh (a b:List YS):a.map V.str++b.map V.str=(a++b).map V.str:=(List.map_append).symm
section
attribute [local push_cast 2000] zb3 zoh
end
end
section
set_option maxHeartbeats 4000000
theorem zbt (a:Int) (c:Nat) (l:List (Int×Nat)):updV (.int .i64 a) (.raw (.pointer (some ⟨c,0,none⟩))) (entM (V.int .i64) pv l)=entM (V.int .i64) pv (updA a c l):=zhP (ev:=pv) a c l
attribute [local irreducible] SN.own ownT ownC ownS
attribute [local irreducible] DW SeqD DV DOp DC DVX DVJ idsF usI sortS putM zaj onlyM
theorem zpR (x:SN) (now:Int) (F:Own):(SAOK x.a)->DC Tryz.prog 87 [.raw (.pointer (some ⟨x.b,0,none⟩)), .int .i64 now] ((x.own++[])++F) fun d G=>∃ x':SN,(SAOK x'.a/\x'.a=zb4 now x.a/\x'.b=x.b)/\d = .sl ((zam now x.a).map zcG)/\G=x'.own++F:=fun h=>by
 rw [List.append_nil];exact sresX x now F h
theorem zmJ (x:SN) (F:Own):True->DC Tryz.prog 49 [.raw (.pointer (some ⟨x.b,0,none⟩))] ((x.own++[])++F) fun d G=>d = .str x.a.name/\G=(x.own++[])++F:=fun h=>by
 rw [List.append_nil];exact scliX x F h
theorem zqG (x:SN) (F:Own):(SAOK x.a/\x.a.subs.length<=1000000000)->DC Tryz.prog 146 [.raw (.pointer (some ⟨x.b,0,none⟩))] ((x.own++[])++F) fun d G=>d = .sl ((zav x.a.subs).map encU)/\G=(x.own++[])++F:=fun h=>by
 rw [List.append_nil];exact ssubsX x F h
theorem ssubC (m:Int) (x:SN) (ff:YS) (qq:Int) (F:Own):(SAOK x.a/\filterB ff=true/\ff.length<=1000000/\0<=qq/\qq<=2)->DC Tryz.prog 96 [.raw (.pointer (some ⟨x.b,0,none⟩)), .str ff, .int .i64 qq] ((knF::knA::knM m::(x.own++[]))++F) fun d G=>∃ x':SN,(SAOK x'.a/\x'.a=subA ff qq x.a/\x'.b=x.b)/\(∃ r:Bool,d = .bool r)/\G=knF::knA::knM m::(x'.own++F):=fun h=>by
 rw [List.append_nil];exact ssubX m x ff qq F h
theorem zbs {P Q:Prop} (q:Q) (h:Hid Q->P:=by (intro q;simp (maxSteps:=1000000) (disch:=omega) only [push_cast,↓reduceIte,reduceCtorEq,Nat.reduceAdd,Nat.reduceMul,Nat.reduceLT,Nat.reduceLeDiff,Nat.reduceEqDiff,Nat.reduceSub,Int.reduceToNat,Int.reduceLT,Int.reduceLE,Int.reduceAdd,Int.reduceSub,Int.reduceMul,Int.reduceNeg,Nat.reduceBEq,Int.reduceBEq,Int.reduceBNe,Nat.reduceBNe,Int.reduceEq,hlk,hC];exact q.1)):P:=h ⟨q⟩
attribute [local push_cast 2000] za9 zaW za8 zaL za3 zaG zaV za7 zax za2 zaX zaB zaC zaY zaE zaq za6 zat zaZ za5 zas zba zaD zar zap zbh zbt zbi zaR zaH zaF Option.getD_some Option.getD_none Option.isSome_some Option.isSome_none
section
theorem ziv (bb cm sm t:Nat) (M:List (Int×Nat)) (n:Int) (cb:Nat) (F:Own):(lookA n M=some cb)->DC Tryz.prog 35 [.raw (.pointer (some ⟨bb,0,none⟩)), .int .i64 n] (.blk bb [.raw (.map (some cm)), .raw (.map (some sm)), .raw (.pointer (some ⟨t,0,none⟩))] :: .map cm (entM (V.int .i64) pv M)::([]:Own)++F) fun d G=>d = .bool true/\G=(.blk bb [.raw (.map (some cm)), .raw (.map (some sm)), .raw (.pointer (some ⟨t,0,none⟩))] :: .map cm (entM (V.int .i64) pv M)::([]:Own))++F:=by
 intro hA
 have hlk:=hA
 refine DC.bodyS (n_:=12) (show Tryz.prog.funcs[35]? = some Tryz.f35 by kernel_rfl) rfl rfl (by rfl) ?_
 simp only [env0,List.cons_append,List.nil_append]
 have kw:=ksIs [0,1,4]
 have ow:=zaf []
 have hC:True:=trivial
 repeat' (first
  | refine g_ ?_
  | ((with_reducible refine And.intro ?_ ?_);(exact sv))
  | (refine DW.cond (by rfl) ?_ ?_<;>(first | exact i0_ | (intro hb;(try simp only [↓reduceCtorEq,not_true_eq_false,not_false_eq_true,hbs,Int.reduceBEq,Int.reduceBNe,Int.reduceEq] at hb);(try refine zbs ?_))))
  | ((with_reducible refine zaa ?_ ?_)<;>(intro hb;rw [hb];revert hb;(first | exact i0_ | (intro hb;(try simp only [↓reduceCtorEq,not_true_eq_false,not_false_eq_true,hbs,Int.reduceBEq,Int.reduceBNe,Int.reduceEq] at hb);(try refine zbs ?_)))))
  | ((first | refine rn_ ?_ | refine kn_ ?_)<;>(refine zbs ?_))
  | ((first | (refine DOp.look_ rfl rfl ?_;(repeat (with_reducible first | refine OnM.here ?_ | refine OnM.next ?_))))<;>(refine zbs ?_))
  | ((refine on_ ?_);refine zbs ?_)
  | refine f_ ?_
  | with_reducible intro b)
 all_goals first
 | (exact kxb5)
 | (trace_state;fail)
end
section
theorem zna (bb cm sm t:Nat) (M:List (Int×Nat)) (n:Int) (F:Own):(lookA n M=none)->DC Tryz.prog 35 [.raw (.pointer (some ⟨bb,0,none⟩)), .int .i64 n] (.blk bb [.raw (.map (some cm)), .raw (.map (some sm)), .raw (.pointer (some ⟨t,0,none⟩))] :: .map cm (entM (V.int .i64) pv M)::([]:Own)++F) fun d G=>d = .bool false/\G=(.blk bb [.raw (.map (some cm)), .raw (.map (some sm)), .raw (.pointer (some ⟨t,0,none⟩))] :: .map cm (entM (V.int .i64) pv M)::([]:Own))++F:=by
 intro hA
 have hlk:=hA
 refine DC.bodyS (n_:=12) (show Tryz.prog.funcs[35]? = some Tryz.f35 by kernel_rfl) rfl rfl (by rfl) ?_
 simp only [env0,List.cons_append,List.nil_append]
 have kw:=ksIs [0,1,4]
 have ow:=zaf []
 have hC:True:=trivial
 repeat' (first
  | refine g_ ?_
  | ((with_reducible refine And.intro ?_ ?_);(exact sv))
  | (refine DW.cond (by rfl) ?_ ?_<;>(first | exact i0_ | (intro hb;(try simp only [↓reduceCtorEq,not_true_eq_false,not_false_eq_true,hbs,Int.reduceBEq,Int.reduceBNe,Int.reduceEq] at hb);(try refine zbs ?_))))
  | ((with_reducible refine zaa ?_ ?_)<;>(intro hb;rw [hb];revert hb;(first | exact i0_ | (intro hb;(try simp only [↓reduceCtorEq,not_true_eq_false,not_false_eq_true,hbs,Int.reduceBEq,Int.reduceBNe,Int.reduceEq] at hb);(try refine zbs ?_)))))
  | ((first | refine rn_ ?_ | refine kn_ ?_)<;>(refine zbs ?_))
  | ((first | (refine DOp.look_ rfl rfl ?_;(repeat (with_reducible first | refine OnM.here ?_ | refine OnM.next ?_))))<;>(refine zbs ?_))
  | ((refine on_ ?_);refine zbs ?_)
  | refine f_ ?_
  | with_reducible intro b)
 all_goals first
 | (exact kxb5)
 | (trace_state;fail)
end
theorem zmm  (F:Own):(True)->DC Tryz.prog 36 [] (([]:Own)++F) fun d G=>∃ b,d = .raw (.pointer (some ⟨b,0,none⟩))/\G = .blk b [.gs (.slice none 0 0) [], .int .i64 0]::F:=by
 intro hA
 refine DC.bodyS (n_:=3) (show Tryz.prog.funcs[36]? = some Tryz.f36 by kernel_rfl) rfl rfl (by rfl) ?_
 simp only [env0,List.cons_append,List.nil_append]
 have kw:=ksIs [0]
 have ow:=zaf [2]
 repeat' (first
  | refine g_ ?_
  | ((with_reducible refine And.intro ?_ ?_);(exact sv))
  | (refine DW.cond (by rfl) ?_ ?_<;>(first | exact i0_ | (refine ic_ ?_;intro hb)))
  | ((with_reducible refine zaa ?_ ?_)<;>(intro hb;rw [hb];revert hb;(first | exact i0_ | (refine i_ ?_;intro hb))))
  | refine r_ ?_
  | refine k_ ?_
  | refine o_ ?_
  | refine f_ ?_
  | ((fail_if_success (have zz:=b1));with_reducible intro b1)
  | with_reducible intro b)
 all_goals first
 | ((refine ⟨_,_,le.rfl_,⟨b1,rfl,rfl⟩,?_⟩);(exact sub_);done)
 | (trace_state;fail)
section
end
section
theorem zoY (bb cm sm t:Nat) (M:List (Int×Nat)) (n now:Int) (cb:Nat) (F:Own):(lookA n M=some cb/\0<=n/\n<16)->DC Tryz.prog 13 [.raw (.pointer (some ⟨bb,0,none⟩)), .int .i64 n, .int .i64 now] (.blk bb [.raw (.map (some cm)), .raw (.map (some sm)), .raw (.pointer (some ⟨t,0,none⟩))] :: .map cm (entM (V.int .i64) pv M)::([]:Own)++F) fun d G=>d = .int .i64 30/\G=(.blk bb [.raw (.map (some cm)), .raw (.map (some sm)), .raw (.pointer (some ⟨t,0,none⟩))] :: .map cm (entM (V.int .i64) pv M)::([]:Own))++F:=by
 intro hA
 obtain ⟨hlk,hn0,hn1⟩:=hA
 refine DC.bodyS (n_:=28) (show Tryz.prog.funcs[13]? = some Tryz.f13 by kernel_rfl) rfl rfl (by rfl) ?_
 simp only [env0,List.cons_append,List.nil_append]
 have kw:=ksIs [0,1,2,6,17]
 have ow:=zaf []
 have dw3:=drIs 3 [10] [3,5,7]
 have hC:True:=trivial
 repeat' (first
  | refine g_ ?_
  | ((with_reducible refine And.intro ?_ ?_);(exact sv))
  | (refine DW.cond (by rfl) ?_ ?_<;>(first | exact i0_ | (intro hb;(try simp only [↓reduceCtorEq,not_true_eq_false,not_false_eq_true,hbs,Int.reduceBEq,Int.reduceBNe,Int.reduceEq] at hb);(try refine zbs ?_))))
  | ((with_reducible first | refine zaa ?_ ?_ | refine zak ?_ ?_)<;>(intro hb;rw [hb];revert hb;(first | exact i0_ | (intro hb;(try simp only [↓reduceCtorEq,not_true_eq_false,not_false_eq_true,hbs,Int.reduceBEq,Int.reduceBNe,Int.reduceEq] at hb);(try refine zbs ?_)))))
  | ((first | refine rn_ ?_ | refine dn_ ?_ | refine kn_ ?_)<;>(refine zbs ?_))
  | ((refine dm_ ?_);(first | (refine v_ (ziv _ _ _ _ _ _ _ _) ?_ (hk:=fun q=>q.1);refine zbs ?_)))
  | ((refine von_ ?_);refine zbs ?_)
  | ((first | (refine DOp.upd_ rfl rfl ?_;(repeat (with_reducible first | refine OnM.here ?_ | refine OnM.next ?_))))<;>(refine zbs ?_))
  | (refine q_ (ziv _ _ _ _ _ _ _ _) ?_ (hk:=fun q=>q.1);refine zbs ?_)
  | ((refine on_ ?_);refine zbs ?_)
  | refine f_ ?_
  | refine vm_ ?_
  | with_reducible intro b)
 all_goals first
 | (exact kxb5)
 | (trace_state;fail)
end
theorem zj2 {P Q:Prop} (q:Q) (h:Hid Q->P:=by (intro q;simp (maxSteps:=1000000) (disch:=omega) only [push_cast,↓reduceIte,reduceCtorEq,Nat.reduceAdd,Nat.reduceMul,Nat.reduceLT,Nat.reduceLeDiff,Nat.reduceEqDiff,Nat.reduceSub,Int.reduceToNat,Int.reduceLT,Int.reduceLE,Int.reduceAdd,Int.reduceSub,Int.reduceMul,Int.reduceNeg,Nat.reduceBEq,Int.reduceBEq,Int.reduceBNe,Nat.reduceBNe,Int.reduceEq,hlk,hC,klS,klV];exact q.1)):P:=h ⟨q⟩
section
theorem zq8 (bb cm sm t:Nat) (M:List (Int×Nat)) (n now:Int) (F:Own):(lookA n M=none/\0<=n/\n<16)->DC Tryz.prog 13 [.raw (.pointer (some ⟨bb,0,none⟩)), .int .i64 n, .int .i64 now] (.blk bb [.raw (.map (some cm)), .raw (.map (some sm)), .raw (.pointer (some ⟨t,0,none⟩))] :: .map cm (entM (V.int .i64) pv M)::([]:Own)++F) fun d G=>∃ cb st:Nat,d = .int .i64 0/\G = .blk bb [.raw (.map (some cm)), .raw (.map (some sm)), .raw (.pointer (some ⟨t,0,none⟩))] :: .map cm (entM (V.int .i64) pv (updA n cb M)) :: .blk cb [.raw (.pointer (some ⟨st,0,none⟩)), .int .i64 (zbf now), .raw (.pointer none), .int .i64 0, .bool false, .gs (.slice none 0 0) []] :: .blk st [.gs (.slice none 0 0) [], .int .i64 0]::F:=by
 intro hA
 obtain ⟨hlk,hn0,hn1⟩:=hA
 refine DC.bodyS (n_:=28) (show Tryz.prog.funcs[13]? = some Tryz.f13 by kernel_rfl) rfl rfl (by rfl) ?_
 simp only [env0,List.cons_append,List.nil_append]
 have kw:=ksIs [0,1,2,6,17]
 have ow:=zaf [27]
 have hC:True:=trivial
 repeat' (first
  | refine g_ ?_
  | ((with_reducible refine And.intro ?_ ?_);(exact sv))
  | (refine DW.cond (by rfl) ?_ ?_<;>(first | exact i0_ | (intro hb;(try simp only [↓reduceCtorEq,not_true_eq_false,not_false_eq_true,hbs,Int.reduceBEq,Int.reduceBNe,Int.reduceEq] at hb);(try refine zj2 ?_))))
  | ((with_reducible refine zaa ?_ ?_)<;>(intro hb;rw [hb];revert hb;(first | exact i0_ | (intro hb;(try simp only [↓reduceCtorEq,not_true_eq_false,not_false_eq_true,hbs,Int.reduceBEq,Int.reduceBNe,Int.reduceEq] at hb);(try refine zj2 ?_)))))
  | ((first | refine rn_ ?_ | refine kn_ ?_)<;>(refine zj2 ?_))
  | ((first | ((with_reducible apply DW.drawJ (id:=3) 0 [0,1,2,6,17] [5,7,9,10] [3] [5,7,9] (hm:=by kernel_rfl) (hd:=by kernel_rfl) (hB:=by kernel_rfl) (hN:=by kernel_rfl));(focus (exact rfl));(repeat (with_reducible first | refine OnB.here ?_ | refine OnB.mid ?_ | refine OnB.next ?_))) | (refine DVJ.k_ rfl rfl rfl ?_) | (refine DVJ.f_ rfl rfl rfl ?_) | (refine DOp.upd_ rfl rfl ?_;(repeat (with_reducible first | refine OnM.here ?_ | refine OnM.next ?_))))<;>(simp (maxSteps:=1000000) (disch:=omega) only [push_cast,↓reduceIte,reduceCtorEq,Nat.reduceAdd,Nat.reduceMul,Nat.reduceLT,Nat.reduceLeDiff,Nat.reduceEqDiff,Nat.reduceSub,Int.reduceToNat,Int.reduceLT,Int.reduceLE,Int.reduceAdd,Int.reduceSub,Int.reduceMul,Int.reduceNeg,Nat.reduceBEq,Int.reduceBEq,Int.reduceBNe,Nat.reduceBNe,Int.reduceEq,hlk,hC,za9,zaW,za8,zaL,za3,zaG,zaV,za7,zax,za2,zaX,zaB,zaC,zaY,zaE,zaq,za6,zat,zaZ,za5,zas,zba,zaD,zar,zap,zbh,zbt,zbi,zaR,zaH,zaF,Option.getD_some,Option.getD_none,Option.isSome_some,Option.isSome_none,klS,klV]))
  | (refine q_ (zna _ _ _ _ _ _ _) ?_ (hk:=fun q=>q.1);refine zj2 ?_)
  | (refine p_ (zmm _) ?_;rintro d H1 ⟨st,rfl,rfl⟩<;>refine zj2 ?_)
  | (refine q_ (zdv _ _) ?_ (hk:=fun q=>q.1);refine zj2 ?_)
  | ((refine on_ ?_);refine zj2 ?_)
  | refine f_ ?_
  | (first | refine DVJ.ma_ rfl rfl rfl ?_ | refine DVJ.mb_ rfl rfl rfl ?_)
  | ((fail_if_success (have zz:=cb));with_reducible intro cb)
  | with_reducible intro b)
 all_goals first
 | ((refine ⟨_,_,le.rfl_,⟨cb,st,rfl,rfl⟩,?_⟩);(exact sub_);done)
 | (trace_state;fail)
end
section
theorem cliN_dc (bb cm sm t:Nat) (M:List (Int×Nat)) (n:Int) (F:Own):(lookA n M=none)->DC Tryz.prog 17 [.raw (.pointer (some ⟨bb,0,none⟩)), .int .i64 n] (.blk bb [.raw (.map (some cm)), .raw (.map (some sm)), .raw (.pointer (some ⟨t,0,none⟩))] :: .map cm (entM (V.int .i64) pv M)::([]:Own)++F) fun d G=>d = .str []/\G=(.blk bb [.raw (.map (some cm)), .raw (.map (some sm)), .raw (.pointer (some ⟨t,0,none⟩))] :: .map cm (entM (V.int .i64) pv M)::([]:Own))++F:=by
 intro hA
 have hlk:=hA
 refine DC.bodyS (n_:=26) (show Tryz.prog.funcs[17]? = some Tryz.f17 by kernel_rfl) rfl rfl (by rfl) ?_
 simp only [env0,List.cons_append,List.nil_append]
 have kw:=ksIs [0,1,4,5,20]
 have ow:=zaf []
 have hC:True:=trivial
 repeat' (first
  | refine g_ ?_
  | ((with_reducible refine And.intro ?_ ?_);(exact sv))
  | (refine DW.cond (by rfl) ?_ ?_<;>(first | exact i0_ | (intro hb;(try simp only [↓reduceCtorEq,not_true_eq_false,not_false_eq_true,hbs,Int.reduceBEq,Int.reduceBNe,Int.reduceEq] at hb);(try refine zbs ?_))))
  | ((with_reducible refine zaa ?_ ?_)<;>(intro hb;rw [hb];revert hb;(first | exact i0_ | (intro hb;(try simp only [↓reduceCtorEq,not_true_eq_false,not_false_eq_true,hbs,Int.reduceBEq,Int.reduceBNe,Int.reduceEq] at hb);(try refine zbs ?_)))))
  | ((first | refine rn_ ?_ | refine kn_ ?_)<;>(refine zbs ?_))
  | ((first | (refine DOp.look_ rfl rfl ?_;(repeat (with_reducible first | refine OnM.here ?_ | refine OnM.next ?_))))<;>(refine zbs ?_))
  | ((refine on_ ?_);refine zbs ?_)
  | refine f_ ?_
  | with_reducible intro b)
 all_goals first
 | (exact kxb5)
 | (trace_state;fail)
end
section
theorem cli0_dc (bb cm sm t:Nat) (M:List (Int×Nat)) (n:Int) (cb st:Nat) (hd:Int) (kp:Int) (cl:Bool) (wv:V) (F:Own):(lookA n M=some cb)->DC Tryz.prog 17 [.raw (.pointer (some ⟨bb,0,none⟩)), .int .i64 n] (.blk bb [.raw (.map (some cm)), .raw (.map (some sm)), .raw (.pointer (some ⟨t,0,none⟩))] :: .map cm (entM (V.int .i64) pv M) :: .blk cb [.raw (.pointer (some ⟨st,0,none⟩)), .int .i64 hd, .raw (.pointer none), .int .i64 kp, .bool cl,wv]::([]:Own)++F) fun d G=>d = .str []/\G=(.blk bb [.raw (.map (some cm)), .raw (.map (some sm)), .raw (.pointer (some ⟨t,0,none⟩))] :: .map cm (entM (V.int .i64) pv M) :: .blk cb [.raw (.pointer (some ⟨st,0,none⟩)), .int .i64 hd, .raw (.pointer none), .int .i64 kp, .bool cl,wv]::([]:Own))++F:=by
 intro hA
 have hlk:=hA
 refine DC.bodyS (n_:=26) (show Tryz.prog.funcs[17]? = some Tryz.f17 by kernel_rfl) rfl rfl (by rfl) ?_
 simp only [env0,List.cons_append,List.nil_append]
 have kw:=ksIs [0,1,4,5,20]
 have ow:=zaf []
 have hC:True:=trivial
 repeat' (first
  | refine g_ ?_
  | ((with_reducible refine And.intro ?_ ?_);(exact sv))
  | (refine DW.cond (by rfl) ?_ ?_<;>(first | exact i0_ | (intro hb;(try simp only [↓reduceCtorEq,not_true_eq_false,not_false_eq_true,hbs,Int.reduceBEq,Int.reduceBNe,Int.reduceEq] at hb);(try refine zbs ?_))))
  | ((with_reducible refine zaa ?_ ?_)<;>(intro hb;rw [hb];revert hb;(first | exact i0_ | (intro hb;(try simp only [↓reduceCtorEq,not_true_eq_false,not_false_eq_true,hbs,Int.reduceBEq,Int.reduceBNe,Int.reduceEq] at hb);(try refine zbs ?_)))))
  | ((first | refine rn_ ?_ | refine kn_ ?_)<;>(refine zbs ?_))
  | ((first | (refine DOp.look_ rfl rfl ?_;(repeat (with_reducible first | refine OnM.here ?_ | refine OnM.next ?_))))<;>(refine zbs ?_))
  | ((refine on_ ?_);refine zbs ?_)
  | refine f_ ?_
  | with_reducible intro b)
 all_goals first
 | (exact kxb5)
 | (trace_state;fail)
end
section
theorem cliS_dc (bb cm sm t:Nat) (M:List (Int×Nat)) (n:Int) (cb st:Nat) (hd:Int) (kp:Int) (cl:Bool) (wv:V) (x:SN) (F:Own):(lookA n M=some cb)->DC Tryz.prog 17 [.raw (.pointer (some ⟨bb,0,none⟩)), .int .i64 n] (.blk bb [.raw (.map (some cm)), .raw (.map (some sm)), .raw (.pointer (some ⟨t,0,none⟩))] :: .map cm (entM (V.int .i64) pv M) :: .blk cb [.raw (.pointer (some ⟨st,0,none⟩)), .int .i64 hd, .raw (.pointer (some ⟨x.b,0,none⟩)), .int .i64 kp, .bool cl,wv]::(x.own++[])++F) fun d G=>d = .str x.a.name/\G=(.blk bb [.raw (.map (some cm)), .raw (.map (some sm)), .raw (.pointer (some ⟨t,0,none⟩))] :: .map cm (entM (V.int .i64) pv M) :: .blk cb [.raw (.pointer (some ⟨st,0,none⟩)), .int .i64 hd, .raw (.pointer (some ⟨x.b,0,none⟩)), .int .i64 kp, .bool cl,wv]::(x.own++[]))++F:=by
 intro hA
 have hlk:=hA
 refine DC.bodyS (n_:=26) (show Tryz.prog.funcs[17]? = some Tryz.f17 by kernel_rfl) rfl rfl (by rfl) ?_
 simp only [env0,List.cons_append,List.nil_append]
 have kw:=ksIs [0,1,4,5,20]
 have ow:=zaf []
 have hC:True:=trivial
 repeat' (first
  | refine g_ ?_
  | ((with_reducible refine And.intro ?_ ?_);(exact sv))
  | (refine DW.cond (by rfl) ?_ ?_<;>(first | exact i0_ | (intro hb;(try simp only [↓reduceCtorEq,not_true_eq_false,not_false_eq_true,hbs,Int.reduceBEq,Int.reduceBNe,Int.reduceEq] at hb);(try refine zbs ?_))))
  | ((with_reducible refine zaa ?_ ?_)<;>(intro hb;rw [hb];revert hb;(first | exact i0_ | (intro hb;(try simp only [↓reduceCtorEq,not_true_eq_false,not_false_eq_true,hbs,Int.reduceBEq,Int.reduceBNe,Int.reduceEq] at hb);(try refine zbs ?_)))))
  | ((first | refine rn_ ?_ | refine kn_ ?_)<;>(refine zbs ?_))
  | ((first | (refine DOp.look_ rfl rfl ?_;(repeat (with_reducible first | refine OnM.here ?_ | refine OnM.next ?_))))<;>(refine zbs ?_))
  | (refine q_ (zmJ _ _) ?_ (hk:=fun q=>q.1);refine zbs ?_)
  | ((refine on_ ?_);refine zbs ?_)
  | refine f_ ?_
  | with_reducible intro b)
 all_goals first
 | (exact kxb5)
 | (trace_state;fail)
end
section
theorem zn0  (F:Own):(True)->DC Tryz.prog 12 [] (([]:Own)++F) fun d G=>∃ (bb:Nat) (s:BN),(BOK s/\s.pl=newB)/\d = .raw (.pointer (some ⟨bb,0,none⟩))/\G=ownB bb s++F:=by
 intro hA
 refine DC.bodyS (n_:=6) (show Tryz.prog.funcs[12]? = some Tryz.f12 by kernel_rfl) rfl rfl (by rfl) ?_
 simp only [env0,List.cons_append,List.nil_append]
 have kw:=ksIs [0]
 have ow:=zaf [4,5]
 repeat' (first
  | refine g_ ?_
  | ((with_reducible refine And.intro ?_ ?_);(exact sv))
  | (refine DW.cond (by rfl) ?_ ?_<;>(first | exact i0_ | (refine ic_ ?_;intro hb)))
  | ((with_reducible refine zaa ?_ ?_)<;>(intro hb;rw [hb];revert hb;(first | exact i0_ | (refine i_ ?_;intro hb))))
  | refine r_ ?_
  | refine k_ ?_
  | (refine p_ (new_dc _) ?_;rintro d H1 ⟨t,ts,rfl,⟨ht,hL⟩,rfl⟩<;>refine s_ ?_)
  | refine o_ ?_
  | refine f_ ?_
  | ((fail_if_success (have zz:=cm));with_reducible intro cm)
  | ((fail_if_success (have zz:=sm));with_reducible intro sm)
  | ((fail_if_success (have zz:=bb));with_reducible intro bb)
  | with_reducible intro b)
 all_goals first
 | (((refine ⟨_,_,le.rfl_,⟨bb,(⟨cm,sm,t,ts,[],[]⟩:BN),⟨⟨ht,List.nodup_nil,(fun _ h=>nomatch h),List.nodup_nil,(fun _ h=>nomatch h),(fun _ h=>nomatch h),(fun _ h=>nomatch h)⟩,(by unfold BN.pl newB;rw [hL];rfl)⟩,rfl,rfl⟩,?_⟩);(simp only [ownB,BN.maps,ownC,ownS,kvC,kvS,List.map_nil,zax,List.cons_append,List.nil_append]);(exact ⟨_,List.Perm.cons _ ((List.perm_append_comm_assoc (ownT t ts) [Ent.map sm [],Ent.map cm []] F).trans (List.Perm.swap _ _ _)),List.Sublist.refl _⟩)))
 | (trace_state;fail)
end
end
section
set_option maxHeartbeats 4000000
attribute [local irreducible] SN.own ownT ownC ownS zal zcl za0 zav
attribute [local irreducible] DW SeqD DV DOp DC DVX DVJ idsF usI sortS putM zaj onlyM
theorem fg_y {nm:YS} {l:List (YS×Int)} {L L1:TL} {k:Nat} (hk:k<l.length) (e1:L1=za0 ((l.getD k default).1,nm) (zal nm (l.take k) L).2) (h:(zcl L1 (l.getD k default).1).length=0):zal nm (l.take (k+1)) L=((zal nm (l.take k) L).1++[(l.getD k default).1],L1):=by
 rw [ziq hk];unfold fgS;rw [<-e1,if_pos h]
theorem fg_n {nm:YS} {l:List (YS×Int)} {L L1:TL} {k:Nat} (hk:k<l.length) (e1:L1=za0 ((l.getD k default).1,nm) (zal nm (l.take k) L).2) (h:¬ (zcl L1 (l.getD k default).1).length=0):zal nm (l.take (k+1)) L=((zal nm (l.take k) L).1,L1):=by
 rw [ziq hk];unfold fgS;rw [<-e1,if_neg h]
theorem ziz (nm:YS) (l:List (YS×Int)) (L:TL):zal nm (l.take 0) L=([],L):=by rw [List.take_zero];unfold zal;rfl
theorem zlE (nm:YS) (L:TL):(zal nm [] L).1=[]:=by unfold zal;rfl
theorem zem (nm:YS) (l:List (YS×Int)) (L:TL):(zal nm (l.take 0) L).1=[]:=by rw [ziz]
attribute [local push_cast 2000] za9 zaW za8 zaL za3 zaG zaV za7 zax za2 zaX zaB zaC zaY zaE zaq za6 zat zaZ za5 zas zba zaD zar zap zbh zbt zbi zaR zaH zaF Option.getD_some Option.getD_none Option.isSome_some Option.isSome_none
section
theorem zlZ (bb cm sm t:Nat) (SS:List (YS×Nat)) (nm:YS) (F:Own):(lookA nm SS=none)->DC Tryz.prog 84 [.raw (.pointer (some ⟨bb,0,none⟩)), .str nm] (.blk bb [.raw (.map (some cm)), .raw (.map (some sm)), .raw (.pointer (some ⟨t,0,none⟩))] :: .map sm (entM V.str pv SS)::([]:Own)++F) fun d G=>d = .gs (.slice none 0 0) []/\G=(.blk bb [.raw (.map (some cm)), .raw (.map (some sm)), .raw (.pointer (some ⟨t,0,none⟩))] :: .map sm (entM V.str pv SS)::([]:Own))++F:=by
 intro hA
 have hlk:=hA
 refine DC.bodyS (n_:=53) (show Tryz.prog.funcs[84]? = some Tryz.f84 by kernel_rfl) rfl rfl (by rfl) ?_
 simp only [env0,List.cons_append,List.nil_append]
 have kw:=ksIs [0,1,4,5,6,8,16,18,19,20,21,40]
 have ow:=zaf []
 have dw8:=drIs 8 [] [3,5,7]
 have dw9:=drIs 9 [] [3,5,6]
 have hC:True:=trivial
 repeat' (first
  | refine g_ ?_
  | ((with_reducible refine And.intro ?_ ?_);(exact sv))
  | (refine DW.cond (by rfl) ?_ ?_<;>(first | exact i0_ | (intro hb;(try simp only [↓reduceCtorEq,not_true_eq_false,not_false_eq_true,hbs,Int.reduceBEq,Int.reduceBNe,Int.reduceEq] at hb);(try refine zbs ?_))))
  | ((with_reducible first | refine zaa ?_ ?_ | refine zak ?_ ?_)<;>(intro hb;rw [hb];revert hb;(first | exact i0_ | (intro hb;(try simp only [↓reduceCtorEq,not_true_eq_false,not_false_eq_true,hbs,Int.reduceBEq,Int.reduceBNe,Int.reduceEq] at hb);(try refine zbs ?_)))))
  | ((first | refine rn_ ?_ | refine dn_ ?_ | refine kn_ ?_)<;>(refine zbs ?_))
  | ((refine dm_ ?_);(first | (refine DVop.look_ rfl rfl rfl rfl ?_;(repeat (with_reducible first | refine OnM.here ?_ | refine OnM.next ?_));refine zbs ?_)))
  | ((refine von_ ?_);refine zbs ?_)
  | ((first | (refine DOp.look_ rfl rfl ?_;(repeat (with_reducible first | refine OnM.here ?_ | refine OnM.next ?_))) | (refine DOp.lenm_ rfl rfl ?_;(repeat (with_reducible first | refine OnM.here ?_ | refine OnM.next ?_))) | (refine DOp.delm_ rfl rfl ?_;(repeat (with_reducible first | refine OnM.here ?_ | refine OnM.next ?_))))<;>(refine zbs ?_))
  | ((refine on_ ?_);refine zbs ?_)
  | refine f_ ?_
  | refine vm_ ?_
  | with_reducible intro b)
 all_goals first
 | (exact kxb5)
 | (trace_state;fail)
end
theorem zbT {p:Prop} (h:p:=by first | exact sv | exact ⟨hx,hxl⟩ | exact ⟨hT,hU _ (by omega),by omega⟩ | exact ⟨hs2,hU _ (by omega),by rw [hL2];exact Nat.le_trans (zhX ..) hTl⟩ | fail):p:=h
section
attribute [local push_cast 2000] encU
theorem zlt (bb cm sm t:Nat) (m:Int) (SS:List (YS×Nat)) (y:SN) (ts:TS) (F:Own):(lookA y.a.name SS=some y.b/\SAOK y.a/\TOK ts/\y.a.subs.length<=1000000000/\ts.L.length<=1000000000/\(zav y.a.subs).length<=1000000000/\∀ k,k<(zav y.a.subs).length->((zav y.a.subs).getD k default).1.length<=1000000)->DC Tryz.prog 84 [.raw (.pointer (some ⟨bb,0,none⟩)), .str y.a.name] (loose::knF::knA::knM m :: .blk bb [.raw (.map (some cm)), .raw (.map (some sm)), .raw (.pointer (some ⟨t,0,none⟩))] :: .map sm (entM V.str pv SS)::(y.own++(ownT t ts++[]))++F) fun d G=>∃ (v:Value) (ts':TS),(TOK ts'/\ts'.L=(zal y.a.name (zav y.a.subs) ts.L).2)/\d = .ar v (zal y.a.name (zav y.a.subs) ts.L).1.length/\G = .arr 1 v ((zal y.a.name (zav y.a.subs) ts.L).1.map V.str)::loose::knF::knA::knM m :: .blk bb [.raw (.map (some cm)), .raw (.map (some sm)), .raw (.pointer (some ⟨t,0,none⟩))] :: .map sm (entM V.str pv (za0 y.a.name SS))::(ownT t ts'++F):=by
 intro hA
 obtain ⟨hlk,hx,hts,hxl,hLl,hUl,hU⟩:=hA
 refine DC.bodyS (n_:=53) (show Tryz.prog.funcs[84]? = some Tryz.f84 by kernel_rfl) rfl rfl (by rfl) ?_
 simp only [env0,List.append_assoc,zem,List.map_nil,zao,List.cons_append,List.nil_append]
 have kw:=ksIs [0,1,4,5,6,8,16,18,19,20,21,40]
 have ow:=zaf []
 have dw8:=drIs 8 [7] [3,5]
 have dw9:=drIs 9 [] [3,5,6]
 have hC:True:=trivial
 repeat' (first
  | ((refine DOp.delm_ rfl rfl ?_);(repeat (with_reducible first | refine OnM.here ?_ | refine OnM.next ?_ | (refine OnM.inN (by assumption) ?_;with_reducible intro C hC) | (refine OnM.inK (by assumption) ?_;with_reducible intro C hC) | refine OnM.skip ?_));refine zbs ?_)
  | ((refine DOp.look_ rfl rfl ?_);(repeat (with_reducible first | refine OnM.here ?_ | refine OnM.next ?_ | (refine OnM.inN (by assumption) ?_;with_reducible intro C hC) | (refine OnM.inK (by assumption) ?_;with_reducible intro C hC) | refine OnM.skip ?_));refine zbs ?_)
  | ((refine DOp.load_ rfl rfl ?_);(repeat (with_reducible first | refine OnB.here ?_ | refine OnB.next ?_ | (refine OnB.inH (by assumption) ?_;with_reducible intro C) | refine OnB.skip ?_));refine zbs ?_)
  | ((refine DW.own0 1 6 (by rfl) ?_);(simp only [zc1,zdn,Nat.reduceEqDiff,↓reduceIte,if_true,if_false,reduceCtorEq]);((with_reducible refine DW.loopB 0 (X:=Nat×Value×TS) (fun x=>x.1<=(zav y.a.subs).length/\TOK x.2.2/\x.2.2.L=(zal y.a.name ((zav y.a.subs).take x.1) ts.L).2) (fun x=>[(0, .raw (.pointer (some ⟨bb,0,none⟩))),(1, .str y.a.name),(6, .ar x.2.1 (zal y.a.name ((zav y.a.subs).take x.1) ts.L).1.length),(18, .sl ((zav y.a.subs).map encU)),(19, .int .i64 (zav y.a.subs).length),(20, .int .i64 x.1)]) (fun x=>.arr 1 x.2.1 ((zal y.a.name ((zav y.a.subs).take x.1) ts.L).1.map V.str)::loose::knF::knA::knM m :: .blk bb [.raw (.map (some cm)), .raw (.map (some sm)), .raw (.pointer (some ⟨t,0,none⟩))]::(ownT t x.2.2++[])) (fun x=>(zav y.a.subs).length - x.1) ((0, .slice none 0 0,ts)) ?_ ?_ ?_);exact (⟨Nat.zero_le _,hts,by rw [ziz]⟩);(simp [Sub,get,zaP,zem,zlE]<;>fail);(try simp only [List.append_assoc,zem,List.map_nil,zao,List.cons_append,List.nil_append]);refine pl_ ?_;intro ⟨k,v,T⟩ ⟨hk,hT,hTL⟩;(try simp only [List.append_assoc,zem,List.map_nil,zao,List.cons_append,List.nil_append]);(try simp only at hk hT hTL);have hTl:T.L.length<=1000000000:=Nat.le_trans (Nat.le_of_eq (congrArg List.length hTL)) (Nat.le_trans (zfw ..) hLl);have hDl:=Nat.le_trans (zc9 y.a.name ts.L ((zav y.a.subs).take k)) (List.length_take_le ..)))
  | refine g_ ?_
  | ((with_reducible refine And.intro ?_ ?_);(exact zbT))
  | (refine DW.cond (by rfl) ?_ ?_<;>(first | exact i0_ | (intro hb;(try simp only [↓reduceCtorEq,not_true_eq_false,not_false_eq_true,hbs,Int.reduceBEq,Int.reduceBNe,Int.reduceEq] at hb);(try refine zbs ?_))))
  | ((with_reducible first | refine zaa ?_ ?_ | refine zak ?_ ?_)<;>(intro hb;rw [hb];revert hb;(first | exact i0_ | (intro hb;(try simp only [↓reduceCtorEq,not_true_eq_false,not_false_eq_true,hbs,Int.reduceBEq,Int.reduceBNe,Int.reduceEq] at hb);(try refine zbs ?_)))))
  | ((first | refine rn_ ?_ | refine dn_ ?_ | refine kn_ ?_)<;>(refine zbs ?_))
  | ((refine dm_ ?_);(first | ((first | refine v_ (zqG _ _) ?_ (ha:=by exact zbT) (hk:=fun q=>q.1) | refine v_ (zfG _ _ _ _ _) ?_ (ha:=by exact zbT) (hk:=fun q=>q.1));refine zbs ?_) | (refine DVop.look_ rfl rfl rfl rfl ?_;(repeat (with_reducible first | refine OnM.here ?_ | refine OnM.next ?_));refine zbs ?_)))
  | ((refine von_ ?_);refine zbs ?_)
  | ((first | (refine DOp.look_ rfl rfl ?_;(repeat (with_reducible first | refine OnM.here ?_ | refine OnM.next ?_))) | (refine DOp.lenm_ rfl rfl ?_;(repeat (with_reducible first | refine OnM.here ?_ | refine OnM.next ?_))) | (refine DOp.delm_ rfl rfl ?_;(repeat (with_reducible first | refine OnM.here ?_ | refine OnM.next ?_))))<;>(refine zbs ?_))
  | ((first | refine q_ (zqG _ _) ?_ (ha:=by exact zbT) (hk:=fun q=>q.1) | refine q_ (zfG _ _ _ _ _) ?_ (ha:=by exact zbT) (hk:=fun q=>q.1));refine zbs ?_)
  | (refine p_ (zlh _ _ _ _ _ _) ?_ (ha:=by exact zbT);rintro d H1 ⟨ts2,⟨hs2,hL2⟩,rfl,rfl⟩<;>refine zbs ?_)
  | ((refine on_ ?_);refine zbs ?_)
  | refine f_ ?_
  | refine vm_ ?_
  | ((fail_if_success (have zz:=bx));with_reducible intro bx)
  | ((fail_if_success (have zz:=v2));with_reducible intro v2)
  | with_reducible intro b)
 all_goals first
 | (((have e:=fg_y (nm:=y.a.name) (L:=ts.L) (L1:=ts2.L) (show k<(zav y.a.subs).length by omega) (by rw [hL2,hTL]) (by omega));(refine ⟨(k+1,v2,ts2),⟨by (try simp only);omega,hs2,by (try simp only);rw [e]⟩,by (try simp only);omega,?_,?_⟩);(focus ((try dsimp only);rw [e];simp [Sub,get]));((try dsimp only);rw [e];simp only [List.map_append,List.map_cons,List.map_nil]);(exact sub_);done))
 | (((have e:=fg_n (nm:=y.a.name) (L:=ts.L) (L1:=ts2.L) (show k<(zav y.a.subs).length by omega) (by rw [hL2,hTL]) (by omega));(refine ⟨(k+1,v,ts2),⟨by (try simp only);omega,hs2,by (try simp only);rw [e]⟩,by (try simp only);omega,?_,?_⟩);(focus ((try dsimp only);rw [e];simp [Sub,get]));((try dsimp only);rw [e]);(exact sub_);done))
 | (((have hkl:k=(zav y.a.subs).length:=by omega);(subst hkl);(rw [List.take_length] at hTL ⊢);(refine ⟨_,_,le.rfl_,⟨v,T,⟨hT,hTL⟩,rfl,rfl⟩,?_⟩);(exact sub_);done))
 | (trace_state;fail)
end
end
end Go.Proofs.YtgekknefphagbaaGreatDoor
