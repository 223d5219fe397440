/- Rows that come back are held fast; fields that hold nothing yet are to be owned. No statement of the program. -/
import Derived.Test.YtgekknefphagbaaGreatDoorEzx
import Derived.Test.YtgekknefphagbaaGreatDoorPtfx
import Derived.Test.YtgekknefphagbaaGreatDoorLpx
import Derived.Test.YtgekknefphagbaaGreatDoorEu
import Derived.KernelRfl
namespace Go.Proofs.YtgekknefphagbaaGreatDoor
open Go.RowKit
set_option linter.unusedSimpArgs false
set_option linter.unusedVariables false
set_option linter.unusedSectionVars false
section
theorem DC.frzX {P:Program} {f:FuncId} {args:List V} {H F:Own} {X:Type} {Q:X->Prop} {sz:Nat} {l:X->List V} (hz:0<sz) (hl:∀ x,∀ y∈l x,y.n=sz)
  (h:DC P f args H fun d G=>∃ v x,d = .ar v (l x).length/\Q x/\G = .arr sz v (cells (l x))::F):DC P f args H fun d G=>∃ x,Q x/\d = .sl (l x)/\G=F :=
 ⟨h.1,fun xs w hs hn hr=>(h.2 xs w hs hn hr).mono fun e w' ⟨u,d,H',he,s,ex,r,v,x,hd,hq,hG⟩=>by
   subst hd hG
   obtain ⟨⟨g1,g2⟩,g3⟩:=Sim.frz (L1:=[]) s hz (hl x)
   have k1:Ext w' (.tail sz v::F) w' F:=Ext.drop fun x hx=>List.mem_cons_of_mem _ hx
   have r1:R (stable w' F) w' u (.gs v (l x)):=(R.cv g3 (Cv.hit _) (g2.rel r)).mono k1.cells
   exact ⟨u, .sl (l x),F,he,g1.drop (List.sublist_cons_self _ _),(ex.trans g2).trans k1,le.gs rfl _ _ _ r1,x,hq,rfl,rfl⟩⟩
theorem DW.own0B (sz b i:Nat) {P:Program} {n:Nat} {Q:Exit->Env->Own->Prop} {e:Env} {H:Own} {c:Code} {cs:List V} (ht:cs.getD i .any = .gs (.slice none 0 0) [])
  (h:DW P n c Q e (.arr sz (.slice none 0 0) [] :: .blk b (cs.set i (.ar (.slice none 0 0) 0))::H)):DW P n c Q e (.blk b cs::H):=fun a w hs hr=>by
 obtain ⟨k1,k2⟩:=Sim.swap (L1:=[]) (w':=w) (e0:=.blk b cs) (e1:=.blk b (cs.set i (.ar (.slice none 0 0) 0))) hs rfl rfl rfl (Nat.le_refl _) (fun _ _ _=>rfl) (fun _ _ _=>rfl) (fun b hb=>.inl hb) (fun q hq=>.inl hq) (fun hst=>by
  obtain ⟨xs,T,fr,h1,h2,h3,h4⟩:=hs.holds (.blk b cs) (by simp)
  refine ⟨xs,T,fr,h1,h2,by rw [List.length_set];exact h3,fun k hk=>?_⟩
  rw [List.length_set] at hk
  have h5:=(h4 k hk).mono hst
  by_cases hki:i=k
  · subst hki
    rw [ht] at h5
    have e1:(cs.set i (V.ar (.slice none 0 0) 0)).getD i .any = .ar (.slice none 0 0) 0:=by rw [List.getD_eq_getElem?_getD,List.getElem?_set_self hk];rfl
    rw [e1]
    generalize xs.getD i undef=y at h5 ⊢
    cases h5
    exact .ar _ _ _ (Nat.le_refl _) (fun _=>rfl)
  · have e1:(cs.set i (V.ar (.slice none 0 0) 0)).getD k .any=cs.getD k .any:=by rw [List.getD_eq_getElem?_getD,List.getElem?_set_ne hki,<-List.getD_eq_getElem?_getD]
    rw [e1];exact h5)
 obtain ⟨g1,g2⟩:=k1.arr0 sz
 have x2:=k2.trans g2
 exact wp_mono (h a w g1 ⟨hr.size,fun u=>x2.rel (hr.slot u)⟩) fun x a1 w1 ⟨hd,e1,H1,s,r,x1,q⟩=>⟨hd,e1,H1,s,r,x2.trans x1,q⟩
theorem DW.own0P (sz b i:Nat) {P:Program} {n:Nat} {Q:Exit->Env->Own->Prop} {e:Env} {H F:Own} {c:Code} {cs:List V} (hq:Pulled H [.blk b cs] F) (ht:cs.getD i .any = .gs (.slice none 0 0) [])
  (h:DW P n c Q e (.arr sz (.slice none 0 0) [] :: .blk b (cs.set i (.ar (.slice none 0 0) 0))::F)):DW P n c Q e H:=fun a w hs hr=>by
 have hp:H.Perm (.blk b cs::F):=hq
 have x2:=Ext.perm (w:=w) hp
 exact wp_mono (DW.own0B sz b i ht h a w (hs.perm hp) ⟨hr.size,fun u=>x2.rel (hr.slot u)⟩) fun x a1 w1 ⟨hd,e1,H1,s,r,x1,q⟩=>⟨hd,e1,H1,s,r,x2.trans x1,q⟩
end
section
set_option maxHeartbeats 4000000
set_option maxRecDepth 100000
structure Pk where
 kind:Int
 dup:Bool
 retain:Bool
 qos:Int
 id:Int
 topic:YS
 payload:YS
 level:Int
 client:YS
 clean:Bool
 keep:Int
 hasWill:Bool
 wtopic:YS
 wpay:YS
 wqos:Int
 wretain:Bool
 hasUser:Bool
 hasPass:Bool
 user:YS
 pass:YS
 present:Bool
 code:Int
 subs:List (YS×Int)
 codes:List Int
 deriving Inhabited
def encU (x:YS×Int):V:=.agg [.str x.1, .int .i64 x.2]
structure PkB (p:Pk):Prop where
 topic:p.topic.length<=100
 payload:p.payload.length<=100
 client:p.client.length<=100
 wtopic:p.wtopic.length<=100
 wpay:p.wpay.length<=100
 user:p.user.length<=100
 pass:p.pass.length<=100
 subs:p.subs.length<=3
 flt:∀ k,(p.subs.getD k default).1.length<=100
 codes:p.codes.length<=3
def zbr (z:Int):UInt8:=UInt8.ofNat (IntKind.u8.wrap z).toNat
theorem zcn (z:Int):V.int .u8 (IntKind.u8.wrap z)=u8 (zbr z):=by
 have h:0<=IntKind.u8.wrap z/\IntKind.u8.wrap z<=255:=by simp [IntKind.wrap,IntKind.bits,IntKind.signed];omega
 unfold u8 zbr
 congr 1
 have:(UInt8.ofNat (IntKind.u8.wrap z).toNat).toNat=(IntKind.u8.wrap z).toNat:=by simp [UInt8.toNat_ofNat];omega
 rw [this];omega
theorem one2 (a c:UInt8):[u8 a,u8 c]=[a,c].map u8:=rfl
theorem zaU:∀ l:YS,cells (l.map u8)=l.map u8
 | []=>rfl
 | a::l=>by
  have:=zaU l
  rw [List.map_cons,zbc,this];rfl
attribute [local irreducible] DW SeqD DV DOp DC DVX chkB
section
attribute [local push_cast 2000] zbv zbg
end
theorem zk7 (b:Bool) (n:Int) (F:Own):(True)->DC Tryz.prog 138 [.bool b, .int .i64 n] (([]:Own)++F) fun d G=>d = .int .i64 (if b=true then n else 0)/\G=[]++F:=by
 intro hA
 refine DC.bodyS (n_:=7) (show Tryz.prog.funcs[138]? = some Tryz.f138 by kernel_rfl) rfl rfl (by rfl) ?_
 simp only [env0,List.cons_append,List.nil_append]
 have kw:=ksIs [0,1,4,5]
 have ow:=zaf []
 repeat' (first
  | refine g_ ?_
  | ((with_reducible refine And.intro ?_ ?_);(exact sv))
  | (refine DW.cond (by rfl) ?_ ?_<;>(first | exact i0_ | (refine ic_ ?_;intro hb)))
  | ((with_reducible refine zaa ?_ ?_)<;>(intro hb;rw [hb];revert hb;(first | exact i0_ | (refine i_ ?_;intro hb))))
  | refine r_ ?_
  | refine k_ ?_
  | refine o_ ?_
  | refine f_ ?_
  | with_reducible intro b)
 all_goals first
 | ((simp only [hb,↓reduceIte,Bool.false_eq_true];(first | exact fin_ | refine finq_ ?_);done))
 | (trace_state;fail)
section
attribute [local push_cast 2000] zaU
end
section
attribute [local push_cast 2000] zaU zbc zao
end
section
attribute [local push_cast 2000] zaU
end
section
attribute [local push_cast 2000] zaU
end
end
section
set_option maxHeartbeats 4000000
set_option maxRecDepth 100000
def twoM (z:Int):YS:=[zbr (z.fdiv (2 ^ min 8 IntKind.i64.bits)),zbr z]
def zbC (t:YS):YS:=twoM t.length++t
def inM (v a b:Int):Bool:=decide (a<=v/\v<=b)
def zen (l:YS):Bool:=decide (l.length<=65535)&&chkB l
theorem zex {α:Type} [Inhabited α] {l:List α} {k:Nat} (h:k<l.length):l.take (k+1)=l.take k++[l.getD k default]:=by
 rw [List.take_add_one,List.getD_eq_getElem?_getD,List.getElem?_eq_getElem h];rfl
theorem zqr {n:Int} (h:0<=n/\n<=255):V.int .u8 n=u8 (zbr n):=by
 rw [<-zcn]
 have e:IntKind.u8.wrap n=n:=by simp [IntKind.wrap,IntKind.bits,IntKind.signed];omega
 rw [e]
@[simp] theorem za1 (z:Int):(twoM z).length=2:=rfl
@[simp] theorem zaA (t:YS):(zbC t).length=2+t.length:=by simp [zbC,za1]
theorem zhw (l:YS) (z:Int):(l++twoM z).map u8=l.map u8++[V.int .u8 (IntKind.u8.wrap (z.fdiv (2 ^ min 8 IntKind.i64.bits))),V.int .u8 (IntKind.u8.wrap z)]:=by simp [twoM,zcn]
theorem zpc (l t:YS):(l++twoM t.length).map u8++t.map u8=(l++zbC t).map u8:=by simp [zbC]
theorem ziQ (t:YS):(twoM t.length).map u8++t.map u8=(zbC t).map u8:=by simp [zbC]
attribute [local irreducible] DW SeqD DV DOp DC DVX chkB
theorem zh1 (v a b:Int) (F:Own):(True)->DC Tryz.prog 181 [.int .i64 v, .int .i64 a, .int .i64 b] (([]:Own)++F) fun d G=>d = .bool (inM v a b)/\G=[]++F:=by
 intro hA
 refine DC.bodyS (n_:=15) (show Tryz.prog.funcs[181]? = some Tryz.f181 by kernel_rfl) rfl rfl (by rfl) ?_
 simp only [env0,List.cons_append,List.nil_append]
 have kw:=ksIs [0,1,2,6]
 have ow:=zaf []
 repeat' (first
  | refine g_ ?_
  | ((with_reducible refine And.intro ?_ ?_);(exact sv))
  | (refine DW.cond (by rfl) ?_ ?_<;>(first | exact i0_ | (refine ic_ ?_;intro hb)))
  | ((with_reducible refine zaa ?_ ?_)<;>(intro hb;rw [hb];revert hb;(first | exact i0_ | (refine i_ ?_;intro hb))))
  | refine r_ ?_
  | refine k_ ?_
  | refine o_ ?_
  | refine f_ ?_
  | with_reducible intro b)
 all_goals first
 | ((refine ⟨_,_,le.of_eq ?_,⟨rfl,rfl⟩,SubP.refl⟩);congr 1;rw [Bool.eq_iff_iff];(simp [inM]<;>omega);done)
 | (trace_state;fail)
section
attribute [local push_cast 2000] zbv zbg
theorem zeM (l:YS) (F:Own):(l.length<=1000000000)->DC Tryz.prog 185 [.str l] (([]:Own)++F) fun d G=>d = .bool (zen l)/\G=[]++F:=by
 intro hA
 have hl:=hA
 refine DC.bodyS (n_:=12) (show Tryz.prog.funcs[185]? = some Tryz.f185 by kernel_rfl) rfl rfl (by rfl) ?_
 simp only [env0,List.cons_append,List.nil_append]
 have kw:=ksIs [0,2]
 have ow:=zaf []
 repeat' (first
  | refine g_ ?_
  | ((with_reducible refine And.intro ?_ ?_);(exact sv))
  | (refine DW.cond (by rfl) ?_ ?_<;>(first | exact i0_ | (refine ic_ ?_;intro hb)))
  | ((with_reducible refine zaa ?_ ?_)<;>(intro hb;rw [hb];revert hb;(first | exact i0_ | (refine i_ ?_;intro hb))))
  | refine r_ ?_
  | refine k_ ?_
  | (refine p_ (zpd _ _) ?_;rintro d H1 ⟨i1,rfl,hi1,rfl⟩<;>refine s_ ?_)
  | refine o_ ?_
  | refine f_ ?_
  | with_reducible intro b)
 all_goals first
 | ((refine ⟨_,_,le.of_eq ?_,⟨rfl,rfl⟩,?_⟩);rotate_left;(exact sub_);congr 1;unfold zen;(try rw [<-hi1]);rw [Bool.eq_iff_iff];(simp_all<;>omega);done)
 | (trace_state;fail)
end
theorem zlw {p:Prop} (h:p:=by first | exact sv | (exact kxcn) | (exact kxch) | fail):p:=h
section
attribute [local push_cast 2000] zaU
theorem zjP (v:Value) (n:Nat) (l:YS) (z:Int) (F:Own):(n=l.length/\l.length<=2000000000)->DC Tryz.prog 187 [.ar v n, .int .i64 z] (.arr 1 v (l.map u8)::([]:Own)++F) fun d G=>∃ v':Value,d = .ar v' (l++twoM z).length/\G = .arr 1 v' ((l++twoM z).map u8)::F:=by
 intro hA
 obtain ⟨hn,hl⟩:=hA
 refine DC.bodyS (n_:=13) (show Tryz.prog.funcs[187]? = some Tryz.f187 by kernel_rfl) rfl rfl (by rfl) ?_
 simp only [env0,List.cons_append,List.nil_append]
 have kw:=ksIs [0,1,4]
 have ow:=zaf []
 repeat' (first
  | refine g_ ?_
  | ((with_reducible refine And.intro ?_ ?_);(exact zlw))
  | (refine DW.cond (by rfl) ?_ ?_<;>(first | exact i0_ | (refine ic_ ?_;intro hb)))
  | ((with_reducible refine zaa ?_ ?_)<;>(intro hb;rw [hb];revert hb;(first | exact i0_ | (refine i_ ?_;intro hb))))
  | refine r_ ?_
  | refine k_ ?_
  | refine o_ ?_
  | refine f_ ?_
  | with_reducible intro b)
 all_goals first
 | ((rw [<-zhw]);refine ⟨_,_,le.of_eq ?_,⟨b,rfl,rfl⟩,?_⟩;(rw [hn];simp [za1]);(exact sub_);done)
 | (trace_state;fail)
end
section
attribute [local push_cast 2000] zaU zbc zao
theorem zq1 (z:Int) (F:Own):(True)->DC Tryz.prog 187 [.gs (.slice none 0 0) [], .int .i64 z] (([]:Own)++F) fun d G=>∃ v':Value,d = .ar v' (twoM z).length/\G = .arr 1 v' ((twoM z).map u8)::F:=by
 intro hA
 refine DC.bodyS (n_:=13) (show Tryz.prog.funcs[187]? = some Tryz.f187 by kernel_rfl) rfl rfl (by rfl) ?_
 simp only [env0,List.cons_append,List.nil_append]
 have kw:=ksIs [0,1,4]
 have ow:=zaf []
 repeat' (first
  | refine g_ ?_
  | ((with_reducible refine And.intro ?_ ?_);(exact sv_twoNE_dc))
  | (refine DW.cond (by rfl) ?_ ?_<;>(first | exact i0_ | (refine ic_ ?_;intro hb)))
  | ((with_reducible refine zaa ?_ ?_)<;>(intro hb;rw [hb];revert hb;(first | exact i0_ | (refine i_ ?_;intro hb))))
  | refine r_ ?_
  | refine k_ ?_
  | ((first | (refine DOp.app0a_ [12] rfl rfl rfl rfl (by intro h;cases h) ?_))<;>(refine s_ ?_))
  | refine o_ ?_
  | refine f_ ?_
  | with_reducible intro b)
 all_goals first
 | (exact kxbh)
 | (trace_state;fail)
end
theorem zgf {p:Prop} (h:p:=by first | exact sv | (exact kxcn) | (exact kxch) | fail):p:=h
section
attribute [local push_cast 2000] zaU za1
theorem zkW (v:Value) (n:Nat) (l t:YS) (F:Own):(n=l.length/\l.length<=1000000000/\t.length<=1000000000)->DC Tryz.prog 186 [.ar v n, .str t] (.arr 1 v (l.map u8)::([]:Own)++F) fun d G=>∃ v':Value,d = .ar v' (l++zbC t).length/\G = .arr 1 v' ((l++zbC t).map u8)::F:=by
 intro hA
 obtain ⟨hn,hl,ht⟩:=hA
 refine DC.bodyS (n_:=11) (show Tryz.prog.funcs[186]? = some Tryz.f186 by kernel_rfl) rfl rfl (by rfl) ?_
 simp only [env0,List.cons_append,List.nil_append]
 have kw:=ksIs [0,1,4]
 have ow:=zaf []
 repeat' (first
  | refine g_ ?_
  | ((with_reducible refine And.intro ?_ ?_);(exact zgf))
  | (refine DW.cond (by rfl) ?_ ?_<;>(first | exact i0_ | (refine ic_ ?_;intro hb)))
  | ((with_reducible refine zaa ?_ ?_)<;>(intro hb;rw [hb];revert hb;(first | exact i0_ | (refine i_ ?_;intro hb))))
  | refine r_ ?_
  | refine k_ ?_
  | (refine p_ (zjP _ _ _ _ _) ?_ (ha:=by exact zgf);rintro d H1 ⟨v1,rfl,rfl⟩<;>refine s_ ?_)
  | refine o_ ?_
  | refine f_ ?_
  | with_reducible intro b)
 all_goals first
 | ((rw [zpc]);refine ⟨_,_,le.of_eq ?_,⟨b,rfl,rfl⟩,?_⟩;(rw [zaA,Nat.add_assoc]);(exact sub_);done)
 | (trace_state;fail)
end
theorem zf4 {p:Prop} (h:p:=by first | exact sv | (exact kxcn) | (exact kxch) | fail):p:=h
section
attribute [local push_cast 2000] zaU za1
theorem zny (t:YS) (F:Own):(t.length<=1000000000)->DC Tryz.prog 186 [.gs (.slice none 0 0) [], .str t] (([]:Own)++F) fun d G=>∃ v':Value,d = .ar v' (zbC t).length/\G = .arr 1 v' ((zbC t).map u8)::F:=by
 intro hA
 have ht:=hA
 refine DC.bodyS (n_:=11) (show Tryz.prog.funcs[186]? = some Tryz.f186 by kernel_rfl) rfl rfl (by rfl) ?_
 simp only [env0,List.cons_append,List.nil_append]
 have kw:=ksIs [0,1,4]
 have ow:=zaf []
 repeat' (first
  | refine g_ ?_
  | ((with_reducible refine And.intro ?_ ?_);(exact zf4))
  | (refine DW.cond (by rfl) ?_ ?_<;>(first | exact i0_ | (refine ic_ ?_;intro hb)))
  | ((with_reducible refine zaa ?_ ?_)<;>(intro hb;rw [hb];revert hb;(first | exact i0_ | (refine i_ ?_;intro hb))))
  | refine r_ ?_
  | refine k_ ?_
  | (refine p_ (zq1 _ _) ?_ (ha:=by exact zf4);rintro d H1 ⟨v1,rfl,rfl⟩<;>refine s_ ?_)
  | refine o_ ?_
  | refine f_ ?_
  | with_reducible intro b)
 all_goals first
 | ((rw [ziQ]);refine ⟨_,_,le.of_eq ?_,⟨b,rfl,rfl⟩,?_⟩;(rw [zaA]);(exact sub_);done)
 | (trace_state;fail)
end
end
section
set_option maxHeartbeats 4000000
set_option maxRecDepth 100000
structure PkN (p:Pk):Prop where
 topic:p.topic.length<=100000
 payload:p.payload.length<=100000
 client:p.client.length<=100000
 wtopic:p.wtopic.length<=100000
 wpay:p.wpay.length<=100000
 user:p.user.length<=100000
 pass:p.pass.length<=100000
 subs:p.subs.length<=1000
 flt:∀ k,(p.subs.getD k default).1.length<=100000
 codes:p.codes.length<=100000
def subM (c:Int) (x:YS×Int):YS:=zbC x.1++(if c=8 then [zbr x.2] else [])
def zin (c:Int) (l:List (YS×Int)):YS:=l.flatMap (subM c)
def zn4 (p:Pk):Int:=(if p.clean=true then 2 else 0)+(if p.hasWill=true then 4 else 0)+8 * p.wqos+(if p.wretain=true then 32 else 0)+(if p.hasPass=true then 64 else 0)+(if p.hasUser=true then 128 else 0)
def zbl (p:Pk):YS :=
 if p.kind=1 then zbC [77,81,84,84]++[zbr p.level,zbr (zn4 p)]++twoM p.keep++zbC p.client++(if p.hasWill=true then zbC p.wtopic++zbC p.wpay else [])++(if p.hasUser=true then zbC p.user else [])++(if p.hasPass=true then zbC p.pass else [])
 else if p.kind=2 then [zbr (if p.present=true then 1 else 0),zbr p.code]
 else if p.kind=3 then zbC p.topic++(if 0<p.qos then twoM p.id else [])++p.payload
 else if p.kind=12\/p.kind=13\/p.kind=14 then []
 else twoM p.id++zin p.kind p.subs++p.codes.map zbr
theorem zqQ (c:Int) {l:List (YS×Int)} {k:Nat} (h:k<l.length):zin c (l.take (k+1))=zin c (l.take k)++subM c (l.getD k default):=by
 unfold zin;rw [zex h,List.flatMap_append];simp
theorem zmV {l:List Int} {k:Nat} (h:k<l.length):(l.take (k+1)).map zbr=(l.take k).map zbr++[zbr (l.getD k default)]:=by
 rw [zex h,List.map_append];rfl
theorem zg2 {a b:Int} (h:(a - b)%256=0):zbr a=zbr b:=by
 have e:IntKind.u8.wrap a=IntKind.u8.wrap b:=by simp [IntKind.wrap,IntKind.bits,IntKind.signed];omega
 unfold zbr;rw [e]
theorem flag_w (a b c d e q:Int):zbr (IntKind.i64.wrap (IntKind.i64.wrap (IntKind.i64.wrap (IntKind.i64.wrap ((a+b)+IntKind.i64.wrap (8 * q))+c)+d)+e))=zbr (a+b+8 * q+c+d+e):=zg2 (by simp [IntKind.wrap,IntKind.bits,IntKind.signed];omega)
theorem zeK {b:Value} {n:Nat} {l:YS} {p:Pk} {F H:Own} (h:l=zbl p) (hn:n=l.length) (hs:SubP (.arr 1 b (l.map u8)::F) H):∃ d' G,le (V.ar b n) d'/\(∃ v:Value,d' = .ar v (zbl p).length/\G = .arr 1 v ((zbl p).map u8)::F)/\SubP G H:=by
 subst h hn;exact ⟨_,_,le.rfl_,⟨b,rfl,rfl⟩,hs⟩
theorem ziy (l:YS) (a:Int):l.map u8++[V.int .u8 (IntKind.u8.wrap a)]=(l++[zbr a]).map u8:=by rw [zcn];simp
theorem zih (l:YS) (a c:Int):l.map u8++[V.int .u8 (IntKind.u8.wrap a),V.int .u8 (IntKind.u8.wrap c)]=(l++[zbr a,zbr c]).map u8:=by rw [zcn,zcn];simp
theorem zno (v:Value) (n:Nat) (t:YS) (F:Own):(n=0/\t.length<=1000000000)->DC Tryz.prog 186 [.ar v n, .str t] ([.arr 1 v []]++F) fun d G=>∃ v':Value,d = .ar v' (zbC t).length/\G = .arr 1 v' ((zbC t).map u8)::F:=fun ⟨h,ht⟩=>by
 subst h
 have:=zkW v 0 [] t F ⟨rfl,by decide,ht⟩
 simpa only [List.nil_append,List.map_nil] using this
theorem zoC (v:Value) (n:Nat) (z:Int) (F:Own):(n=0)->DC Tryz.prog 187 [.ar v n, .int .i64 z] ([.arr 1 v []]++F) fun d G=>∃ v':Value,d = .ar v' (twoM z).length/\G = .arr 1 v' ((twoM z).map u8)::F:=fun h=>by
 subst h
 have:=zjP v 0 [] z F ⟨rfl,by decide⟩
 simpa only [List.nil_append,List.map_nil] using this
theorem nil_arE:le (.gs (.slice none 0 0) []) (.ar (.slice none 0 0) 0):=fun S w u r=>by
 cases r with
 | gs v l r=>exact .ar none 0 0 (Nat.le_refl _) fun _=>rfl
abbrev YSw:=List UInt8
theorem znZ (F:Own):True->DC Tryz.prog 186 [.gs (.slice none 0 0) [], .str [77,81,84,84]] ([]++F) fun d G=>∃ v':Value,d = .ar v' (zbC [77,81,84,84]).length/\G = .arr 1 v' ((zbC [77,81,84,84]).map u8)::F:=fun _=>zny [77,81,84,84] F (by decide)
attribute [local irreducible] DW SeqD DV DOp DC DVX
theorem zbI {p:Prop} (h:p:=by first | exact sv | (refine ⟨?_,?_⟩<;>(exact kxbr)) | (refine ⟨?_,?_,?_⟩<;>(exact kxbr)) | (exact kxcn) | (exact kxch) | fail):p:=h
section
attribute [local push_cast 2000] zih ziy zaU zbv zbg encU za1 zaA
theorem zoL (p:Pk) (F:Own):(PkN p)->DC Tryz.prog 139 [.agg [.int .i64 p.kind, .bool p.dup, .bool p.retain, .int .i64 p.qos, .int .i64 p.id, .str p.topic, .sl (p.payload.map u8), .int .i64 p.level, .str p.client, .bool p.clean, .int .i64 p.keep, .bool p.hasWill, .str p.wtopic, .sl (p.wpay.map u8), .int .i64 p.wqos, .bool p.wretain, .bool p.hasUser, .bool p.hasPass, .str p.user, .sl (p.pass.map u8), .bool p.present, .int .i64 p.code, .sl (p.subs.map encU), .sl (p.codes.map (V.int .i64))]] (([]:Own)++F) fun d G=>∃ v':Value,d = .ar v' (zbl p).length/\G = .arr 1 v' ((zbl p).map u8)::F:=by
 intro hA
 have hp:=hA
 refine DC.bodyS (n_:=157) (show Tryz.prog.funcs[139]? = some Tryz.f139 by kernel_rfl) rfl rfl (by rfl) ?_
 simp only [env0,List.cons_append,List.nil_append]
 have kw:=ksIs [0,1,2,3,4,5,7,8,50,62,68,75,87,95,104,116,129,144]
 have ow:=zaf []
 have dw4:=drIs 4 [0,6,9,19,23,27,31] []
 have dw5:=drIs 5 [3,6] [2]
 have dw7:=drIs 7 [4,9] [3]
 have dw14:=drIs 14 [9] [2,3,6]
 have s1:=hp.subs;have s2:=hp.codes;have h1:=hp.topic;have h2:=hp.payload;have h3:=hp.client;have h4:=hp.wtopic;have h5:=hp.wpay;have h6:=hp.user;have h7:=hp.pass
 repeat' (first
  | ((refine DW.own0 1 3 (by rfl) ?_);(simp only [zc1,zdn,Nat.reduceEqDiff,↓reduceIte,if_true,if_false,reduceCtorEq]))
  | ((with_reducible refine DW.loopB 1 (X:=Nat×Value×YSw) (fun x=>x.1<=p.subs.length/\x.2.2=twoM p.id++zin p.kind (p.subs.take x.1)/\x.2.2.length<=2+100003 * x.1) (fun x=>[(1, .sp [.int .i64 p.kind, .bool p.dup, .bool p.retain, .int .i64 p.qos, .int .i64 p.id, .str p.topic, .sl (p.payload.map u8), .int .i64 p.level, .str p.client, .bool p.clean, .int .i64 p.keep, .bool p.hasWill, .str p.wtopic, .sl (p.wpay.map u8), .int .i64 p.wqos, .bool p.wretain, .bool p.hasUser, .bool p.hasPass, .str p.user, .sl (p.pass.map u8), .bool p.present, .int .i64 p.code, .sl (p.subs.map encU), .sl (p.codes.map (V.int .i64))]),(3, .ar x.2.1 x.2.2.length),(4, .int .i64 x.1)]) (fun x=>.arr 1 x.2.1 (x.2.2.map u8)::([]:Own)) (fun x=>p.subs.length - x.1) ((0,v1,twoM p.id)) ?_ ?_ ?_);exact (⟨Nat.zero_le _,by simp [zin],by simp [za1]⟩);(exact kxcm);(try simp only [List.cons_append,List.nil_append]);refine pl_ ?_;intro ⟨k,y,l⟩ ⟨hk,hle,hlk⟩;(try simp only [List.cons_append,List.nil_append]);(try simp only at hk hle hlk);have hfl:=hp.flt k)
  | ((with_reducible refine DW.loopB 3 (X:=Nat×Value×YSw) (fun x=>x.1<=p.codes.length/\x.2.2=twoM p.id++zin p.kind p.subs++(p.codes.take x.1).map zbr/\x.2.2.length<=2+100003 * 1000+x.1) (fun x=>[(1, .sp [.int .i64 p.kind, .bool p.dup, .bool p.retain, .int .i64 p.qos, .int .i64 p.id, .str p.topic, .sl (p.payload.map u8), .int .i64 p.level, .str p.client, .bool p.clean, .int .i64 p.keep, .bool p.hasWill, .str p.wtopic, .sl (p.wpay.map u8), .int .i64 p.wqos, .bool p.wretain, .bool p.hasUser, .bool p.hasPass, .str p.user, .sl (p.pass.map u8), .bool p.present, .int .i64 p.code, .sl (p.subs.map encU), .sl (p.codes.map (V.int .i64))]),(3, .ar x.2.1 x.2.2.length),(5, .int .i64 x.1)]) (fun x=>.arr 1 x.2.1 (x.2.2.map u8)::([]:Own)) (fun x=>p.codes.length - x.1) ((0,y,l)) ?_ ?_ ?_);exact (⟨Nat.zero_le _,by (have hkk:k=p.subs.length:=by omega);(subst hkk);simp [hle],by (try simp only);omega⟩);(exact kxcm);(try simp only [List.cons_append,List.nil_append]);refine pl_ ?_;intro ⟨i,z,m⟩ ⟨hi,hme,hmi⟩;(try simp only [List.cons_append,List.nil_append]);(try simp only at hi hme hmi))
  | refine g_ ?_
  | ((with_reducible refine And.intro ?_ ?_);(exact zbI))
  | (refine DW.cond (by rfl) ?_ ?_<;>(first | exact i0_ | (refine ic_ ?_;intro hb)))
  | ((with_reducible first | refine zaa ?_ ?_ | refine zak ?_ ?_)<;>(intro hb;rw [hb];revert hb;(first | exact i0_ | (refine i_ ?_;intro hb))))
  | refine r_ ?_
  | refine d_ ?_
  | refine k_ ?_
  | ((refine dm_ ?_);(first | (refine v_ (zk7 _ _ _) ?_ (ha:=by exact zbI))))
  | refine vo_ ?_
  | (refine p_ (zno _ _ _ _) ?_ (ha:=by exact zbI);rintro d H1 ⟨v1,rfl,rfl⟩<;>refine s_ ?_)
  | (refine p_ (zoC _ _ _ _) ?_ (ha:=by exact zbI);rintro d H1 ⟨v1,rfl,rfl⟩<;>refine s_ ?_)
  | (refine p_ (znZ _) ?_ (ha:=by exact zbI);rintro d H1 ⟨v1,rfl,rfl⟩<;>refine s_ ?_)
  | ((first | refine p_ (zkW _ _ _ _ _) ?_ (ha:=by exact zbI) | refine p_ (zjP _ _ _ _ _) ?_ (ha:=by exact zbI));rintro d H1 ⟨v1,rfl,rfl⟩<;>refine s_ ?_)
  | (refine q_ (zk7 _ _ _) ?_ (ha:=by exact zbI))
  | refine o_ ?_
  | refine f_ ?_
  | refine vm_ ?_
  | with_reducible intro b)
 all_goals first
 | ((try have hq0:¬ (0<p.qos):=by omega);(refine zeK ?_ ?_ (by exact sub_));(exact kxa9);((try simp only [List.length_append,List.length_cons,List.length_nil,za1,zaA])<;>(try omega));done)
 | ((rw [flag_w]);(try have hq0:¬ (0<p.qos):=by omega);(refine zeK ?_ ?_ (by exact sub_));(exact kxa9);((try simp only [List.length_append,List.length_cons,List.length_nil,za1,zaA])<;>(try omega));done)
 | ((rw [<-List.map_append]);(try have hq0:¬ (0<p.qos):=by omega);(refine zeK ?_ ?_ (by exact sub_));(exact kxa9);((try simp only [List.length_append,List.length_cons,List.length_nil,za1,zaA])<;>(try omega));done)
 | ((rw [show V.int .u8 (if p.present=true then 1 else 0)=u8 (zbr (if p.present=true then 1 else 0)) from zqr (by split<;>omega),zcn,one2]);(try have hq0:¬ (0<p.qos):=by omega);(refine zeK ?_ ?_ (by exact sub_));(exact kxa9);((try simp only [List.length_append,List.length_cons,List.length_nil,za1,zaA])<;>(try omega));done)
 | ((have e:zbl p=[]:=by unfold zbl;simp [*]);(rw [e]);(exact ⟨_,_,nil_arE,⟨_,rfl,rfl⟩,SubP.refl⟩);done)
 | ((have hii:i=p.codes.length:=by omega);(subst hii);(refine zeK ?_ ?_ (by exact sub_));(focus (unfold zbl;(simp_all [List.take_length]);done));((try simp only [List.length_append,List.length_cons,List.length_nil,za1,zaA])<;>(try omega));done)
 | (refine ⟨(k+1,b,l++(zbC (p.subs.getD k default).1++[zbr (p.subs.getD k default).2])),⟨by (try simp only);omega,by (rw [zqQ _ (by omega),hle];simp [subM, *]),by (exact kxbr)⟩,by (try simp only);omega,by simp [Sub,get,za1,zaA,Nat.add_assoc],?_⟩;(exact kxce);done)
 | (refine ⟨(k+1,v1,l++zbC (p.subs.getD k default).1),⟨by (try simp only);omega,by (rw [zqQ _ (by omega),hle];simp [subM, *]),by (exact kxbr)⟩,by (try simp only);omega,by simp [Sub,get,za1,zaA,Nat.add_assoc],?_⟩;(exact kxce);done)
 | (refine ⟨(i+1,b,m++[zbr (p.codes.getD i default)]),⟨by (try simp only);omega,by (rw [zmV (by omega),hme];simp),by (exact kxbr)⟩,by (try simp only);omega,by simp [Sub,get],?_⟩;(exact kxce);done)
 | (trace_state;fail)
end
end
section
set_option maxHeartbeats 4000000
set_option maxRecDepth 100000
def cliY_:List YS:=[[107],[108],[109],[195,169],[]]
def cliY (k:Int):YS:=cliY_.getD (k.tmod 5).toNat default
theorem cliY_at {k:Int} (h:0<=k):([.str [107], .str [108], .str [109], .str [195,169], .str []]:List V).getD (k.tmod 5).toNat .any = .str (cliY k):=by
 have q0:=Int.tmod_nonneg 5 h;have q1:=Int.tmod_lt_of_pos k (show (0:Int)<5 by decide)
 unfold cliY
 generalize hj:(k.tmod 5).toNat=j
 have hj5:j<5:=by omega
 match j,hj5 with
 | 0,_=>rfl
 | 1,_=>rfl
 | 2,_=>rfl
 | 3,_=>rfl
 | 4,_=>rfl
theorem in_len {l:List YS} {n:Nat} (h:∀ f∈l,f.length<=n) (i:Nat):(l.getD i default).length<=n:=by
 by_cases hi:i<l.length
 · exact h _ (zqn hi)
 · rw [List.getD_eq_getElem?_getD,List.getElem?_eq_none (by omega)];exact Nat.zero_le _
def filY (k:Int):YS:=([[97],[35],[97,47,43],[43,47,98],[97,47,35],[98,47,99],[36,115,47,35],[43],[43,47,43],[195,169,47,35]]:List YS).getD (k.tmod 10).toNat default
theorem zkB (k:Int):(filY k).length<=100:=in_len (by decide) _
attribute [local irreducible] DW SeqD DV DOp DC DVX
theorem zpf {P Q:Prop} (q:Q) (h:Hid Q->P:=by (intro q;simp (maxSteps:=1000000) (disch:=omega) only [push_cast,↓reduceIte,reduceCtorEq,Nat.reduceAdd,Nat.reduceMul,Nat.reduceLT,Nat.reduceLeDiff,Nat.reduceEqDiff,Nat.reduceSub,Int.reduceToNat,Int.reduceLT,Int.reduceLE,Int.reduceAdd,Int.reduceSub,Int.reduceMul,Int.reduceNeg,Nat.reduceBEq,Int.reduceBEq,Int.reduceBNe,Nat.reduceBNe,Int.reduceEq,hkm];exact q.1)):P:=h ⟨q⟩
theorem filY_dc (k:Int) (F:Own):(0<=k/\k<=255)->DC Tryz.prog 28 [.int .u8 k] (([]:Own)++F) fun d G=>d = .str (filY k)/\G=[]++F:=by
 intro hA
 obtain ⟨h0,h1⟩:=hA
 refine DC.bodyS (n_:=8) (show Tryz.prog.funcs[28]? = some Tryz.f28 by kernel_rfl) rfl rfl (by rfl) ?_
 simp only [env0,List.cons_append,List.nil_append]
 have kw:=ksIs [0,2]
 have ow:=zaf []
 have q0:=Int.tmod_nonneg 10 h0;have q1:=Int.tmod_lt_of_pos k (show (0:Int)<10 by decide)
 rcases (show k.tmod 10=0\/k.tmod 10=1\/k.tmod 10=2\/k.tmod 10=3\/k.tmod 10=4\/k.tmod 10=5\/k.tmod 10=6\/k.tmod 10=7\/k.tmod 10=8\/k.tmod 10=9 by omega) with hkm | hkm | hkm | hkm | hkm | hkm | hkm | hkm | hkm | hkm
 repeat' (first
  | refine g_ ?_
  | ((with_reducible refine And.intro ?_ ?_);(exact sv))
  | (refine DW.cond (by rfl) ?_ ?_<;>(first | exact i0_ | (intro hb;(try simp only [↓reduceCtorEq,not_true_eq_false,not_false_eq_true,hbs,Int.reduceBEq,Int.reduceBNe,Int.reduceEq] at hb);(try refine zpf ?_))))
  | ((with_reducible refine zaa ?_ ?_)<;>(intro hb;rw [hb];revert hb;(first | exact i0_ | (intro hb;(try simp only [↓reduceCtorEq,not_true_eq_false,not_false_eq_true,hbs,Int.reduceBEq,Int.reduceBNe,Int.reduceEq] at hb);(try refine zpf ?_)))))
  | ((first | refine rn_ ?_ | refine kn_ ?_)<;>(refine zpf ?_))
  | ((refine on_ ?_);refine zpf ?_)
  | refine f_ ?_
  | with_reducible intro b)
 all_goals (refine ⟨_,_,le.of_eq ?_,⟨rfl,rfl⟩,SubP.refl⟩;rw [filY,hkm];rfl)
section
attribute [local push_cast 2000] cliY_at
end
end
end Go.Proofs.YtgekknefphagbaaGreatDoor
