/- Texts of bytes: what the packets' texts ask (in a seat without scripts). No statement of the program. -/
import Derived.Test.YtgekknefphagbaaGreatDoorEn
import Derived.Test.YtgekknefphagbaaGreatDoorLpx
import Derived.Test.YtgekknefphagbaaGreatDoorEu
import Derived.Test.YtgekknefphagbaaGreatDoorFxx
import Derived.KernelRfl
import Derived.Test.YtgekknefphagbaaGreatDoorGzx
import Derived.Test.YtgekknefphagbaaGreatDoorSox
import Derived.Shelf.Sort.Plain
import Derived.Shelf.Slices.In.SortNone
import Derived.Shelf.Slices.CompactI
import Derived.Lib.RowBridge
namespace Go.Proofs.YtgekknefphagbaaGreatDoor
open Go.RowKit
section
abbrev YS:=List UInt8
theorem zo7 {α:Type} [Inhabited α] {l:List α} {i:Nat} {d:α} (h:i<l.length):l.getD i d∈l:=by
 rw [List.getD_eq_getElem?_getD,List.getElem?_eq_getElem h];exact List.getElem_mem h
theorem Les.at_ {cs ds:List V} (h:Les cs ds):cs.length=ds.length/\∀ k,k<ds.length->le (cs.getD k .any) (ds.getD k .any):=by
 induction h with
 | nil=>exact ⟨rfl,fun k hk=>absurd hk (Nat.not_lt_zero _)⟩
 | cons h1 h2 ih =>
  refine ⟨by simp [ih.1],fun k hk=>?_⟩
  cases k with
  | zero=>simpa using h1
  | succ k=>simpa using ih.2 k (by simpa using hk)
theorem le.tup {cs ds:List V} (h:Les cs ds):le (.tup cs) (.tup ds):=by
 have key:=h.at_
 intro S w u r
 cases r with
 | tup xs cs' hn hc=>exact .tup xs ds (hn.trans key.1) fun k hk=>key.2 k hk S w _ (hc k (by rw [key.1];exact hk))
end
section
set_option linter.unusedSimpArgs false
set_option linter.unusedVariables false
set_option linter.unusedSectionVars false
set_option maxHeartbeats 4000000
set_option maxRecDepth 100000
structure Pk where
 kind:Int
 dup:Bool
 retain:Bool
 qos:Int
 id:Int
 topic:YS
 payload:YS
 level:Int
 client:YS
 clean:Bool
 keep:Int
 hasWill:Bool
 wtopic:YS
 wpay:YS
 wqos:Int
 wretain:Bool
 hasUser:Bool
 hasPass:Bool
 user:YS
 pass:YS
 present:Bool
 code:Int
 subs:List (YS×Int)
 codes:List Int
 deriving Inhabited
def encU (x:YS×Int):V:=.agg [.str x.1, .int .i64 x.2]
structure PkB (p:Pk):Prop where
 topic:p.topic.length<=100
 payload:p.payload.length<=100
 client:p.client.length<=100
 wtopic:p.wtopic.length<=100
 wpay:p.wpay.length<=100
 user:p.user.length<=100
 pass:p.pass.length<=100
 subs:p.subs.length<=3
 flt:∀ k,(p.subs.getD k default).1.length<=100
 codes:p.codes.length<=3
def zbw (z:Int):UInt8:=UInt8.ofNat (IntKind.u8.wrap z).toNat
theorem zdz (z:Int):V.int .u8 (IntKind.u8.wrap z)=u8 (zbw z):=by
 have h:0<=IntKind.u8.wrap z/\IntKind.u8.wrap z<=255:=by simp [IntKind.wrap,IntKind.bits,IntKind.signed];omega
 unfold u8 zbw
 congr 1
 have:(UInt8.ofNat (IntKind.u8.wrap z).toNat).toNat=(IntKind.u8.wrap z).toNat:=by simp [UInt8.toNat_ofNat];omega
 rw [this];omega
theorem zaE:∀ l:YS,cells (l.map u8)=l.map u8
 | []=>rfl
 | a::l=>by
  have:=zaE l
  rw [List.map_cons,zaF,this];rfl
attribute [local irreducible] DW SeqD DV DOp DC DVX chkB
section
attribute [local push_cast 2000] zby zba
end
section
attribute [local push_cast 2000] zaE
end
section
attribute [local push_cast 2000] zaE zaF zaq
end
section
attribute [local push_cast 2000] zaE
end
section
attribute [local push_cast 2000] zaE
end
end
section
set_option linter.unusedSimpArgs false
set_option linter.unusedVariables false
set_option linter.unusedSectionVars false
set_option maxHeartbeats 4000000
set_option maxRecDepth 100000
attribute [local irreducible] DW SeqD DV DOp DC DVX
section
attribute [local push_cast 2000] u8
end
section
attribute [local push_cast 2000] u8
end
section
attribute [local push_cast 2000] u8
end
end
section
set_option linter.unusedSimpArgs false
set_option linter.unusedVariables false
set_option linter.unusedSectionVars false
set_option maxHeartbeats 4000000
set_option maxRecDepth 100000
abbrev knM (m:Int):Ent:=.know 3 [.int .i64 m]
def levs (l:List UInt8):List (List UInt8):=(Lib.splitB (bs [47]) 0 (Lib.countB (bs l) (bs [47])) (bs l)).map (·.data.toList)
theorem bs_back (b:ByteArray):bs b.data.toList=b:=by cases b;simp [bs]
theorem ziK:∀ (n:Nat) (cs:List V),n=cs.length->zdA 1 false n cs=cs
 | 0,[],_=>rfl
 | n+1,c::cs,h=>by
  simp only [zdA,Bool.false_eq_true,if_false,List.getD_cons_zero,List.drop_succ_cons,List.drop_zero,ziK n cs (by simpa using h)]
theorem zkQ (l:List UInt8):(levs l).length=Lib.countB (bs l) (bs [47])+1:=by
 unfold levs
 rw [List.length_map,Lib.splitB_all (bs [47]) (by decide) 0 _ (bs l) rfl]
theorem zpn (m:Int) (l:List UInt8) (F:Own):l.length<=1000000000->DC Tryz.prog 173 [.str l, .str [47]] ([knM m]++F) fun d G=>d = .sl ((levs l).map V.str)/\G=[knM m]++F:=fun hl=>by
 refine ⟨by kernel_rfl,fun xs w hs hsz hr=>?_⟩
 have h0:=hr 0 (by simp)
 have h1:=hr 1 (by simp)
 obtain ⟨x0,x1,rfl⟩:=zqx hsz
 have e0:x0 = .string (bs l):=by
  have h0:R (stable w ([knM m]++F)) w x0 (.str l):=h0
  cases h0;rfl
 have e1:x1 = .string (bs [47]):=by
  have h1:R (stable w ([knM m]++F)) w x1 (.str [47]):=h1
  cases h1;rfl
 subst e0;subst e1
 have hh:=hs.holds (knM m) (List.mem_cons_self ..)
 obtain ⟨k1,k2⟩:=hh 0 (by simp)
 have k2:R (stable w ([knM m]++F)) w (za5 w ⟨3,0,none⟩) (.int .i64 m):=k2
 have hm:w.cell? ⟨3,0,none⟩=some (.int .i64 m):=by
  have k3:=k1.1
  unfold za5 at k2
  cases hc:w.cell? ⟨3,0,none⟩ with
  | none=>rw [hc] at k3;cases k3
  | some v=>rw [hc] at k2;cases k2;rfl
 have c:=Any.strings_Split zhT (by kernel_rfl) (bs l) (bs [47]) m w (by rw [zdf];omega) hm (by decide)
 refine c.mono ?_
 rintro e w' ⟨rfl,rfl⟩
 have hz:((levs l).map V.str).length=(Lib.countB (bs l) (bs [47])+1) * 1:=by rw [List.length_map,zkQ,Nat.mul_one]
 have rr:=zjP (w:=w) hs ((Lib.splitB (bs [47]) 0 (Lib.countB (bs l) (bs [47])) (bs l)).map Value.string).toArray (laySplit_ren.t 9) ((levs l).map V.str) (Lib.countB (bs l) (bs [47])+1) 1 false (by decide) (fun _=>⟨rfl,by simp [V.flat]⟩) (by simp [levs]) hz (fun k hk=>by
  have hk':k<(Lib.splitB (bs [47]) 0 (Lib.countB (bs l) (bs [47])) (bs l)).length:=by simpa [levs] using hk
  have e1:(((Lib.splitB (bs [47]) 0 (Lib.countB (bs l) (bs [47])) (bs l)).map Value.string).toArray).getD k undef=Value.string (bs ((Lib.splitB (bs [47]) 0 (Lib.countB (bs l) (bs [47])) (bs l))[k]).data.toList):=by
   rw [bs_back];simp [Array.getD_eq_getD_getElem?,hk']
  have e2:((levs l).map V.str).getD k .any = .str ((Lib.splitB (bs [47]) 0 (Lib.countB (bs l) (bs [47])) (bs l))[k]).data.toList:=by
   simp [levs,List.getD_eq_getElem?_getD,hk']
  rw [e1,e2];exact .str _)
 rw [ziK _ _ (by rw [hz,Nat.mul_one])] at rr
 exact ⟨_,_,_,rfl,(Sim.new hs _).1,(Sim.new hs _).2,rr,rfl,rfl⟩
attribute [local irreducible] DW SeqD DV DOp DC DVX
theorem zgR (m:Int) (l:List UInt8) (F:Own):(l.length<=1000000000)->DC Tryz.prog 120 [.str l] ([knM m]++F) fun d G=>d = .sl ((levs l).map V.str)/\G=[knM m]++F:=by
 intro hA
 have hl:=hA
 refine DC.bodyS (n_:=5) (show Tryz.prog.funcs[120]? = some Tryz.f120 by kernel_rfl) rfl rfl (by rfl) ?_
 simp only [env0,List.cons_append,List.nil_append]
 have kw:=ksIs [0,2]
 have ow:=zai []
 repeat' (first
  | refine g_ ?_
  | ((with_reducible refine And.intro ?_ ?_);(exact sv))
  | (refine DW.cond (by rfl) ?_ ?_<;>(first | exact i0_ | (refine ic_ ?_;intro hb)))
  | ((with_reducible refine zaa ?_ ?_)<;>(intro hb;rw [hb];revert hb;(first | exact i0_ | (refine i_ ?_;intro hb))))
  | refine r_ ?_
  | refine k_ ?_
  | (refine q_ (zpn _ _ _) ?_)
  | refine o_ ?_
  | refine f_ ?_
  | with_reducible intro b)
 (first | exact fin_ | refine finq_ ?_)
 all_goals rfl
section
attribute [local push_cast 2000] u8
end
end
section
set_option linter.unusedSimpArgs false
set_option linter.unusedVariables false
set_option linter.unusedSectionVars false
set_option maxHeartbeats 4000000
set_option maxRecDepth 100000
attribute [local irreducible] DW SeqD DV DOp DC DVX
def zcz (l:List UInt8):Bool:=l.any fun c=>c==43||c==35
theorem zk2 (r:Int) (F:Own):(True)->DC Tryz.prog 143 [.int .i32 r] (([]:Own)++F) fun d G=>d = .bool (r==43||r==35)/\G=[]++F:=by
 intro hA
 refine DC.bodyS (n_:=9) (show Tryz.prog.funcs[143]? = some Tryz.f143 by kernel_rfl) rfl rfl (by rfl) ?_
 simp only [env0,List.cons_append,List.nil_append]
 have kw:=ksIs [0,2]
 have ow:=zai []
 repeat' (first
  | refine g_ ?_
  | ((with_reducible refine And.intro ?_ ?_);(exact sv))
  | (refine DW.cond (by rfl) ?_ ?_<;>(first | exact i0_ | (refine ic_ ?_;intro hb)))
  | ((with_reducible refine zaa ?_ ?_)<;>(intro hb;rw [hb];revert hb;(first | exact i0_ | (refine i_ ?_;intro hb))))
  | refine r_ ?_
  | refine k_ ?_
  | refine o_ ?_
  | refine f_ ?_
  | with_reducible intro b)
 all_goals
  refine ⟨_,_,le.of_eq ?_,⟨rfl,rfl⟩,SubP.refl⟩
  simp_all
end
section
set_option linter.unusedSimpArgs false
set_option linter.unusedVariables false
set_option linter.unusedSectionVars false
set_option maxHeartbeats 4000000
set_option maxRecDepth 100000
attribute [local irreducible] DW SeqD DV DOp DC DVX
def okAt (ls:List (List UInt8)) (i:Nat):Bool:=ls.getD i default==[43]||(ls.getD i default==[35]&&decide ((i:Int)=(ls.length:Int) - 1)) || !zcz (ls.getD i default)
def okF (ls:List (List UInt8)):Bool:=(List.range ls.length).all (okAt ls)
theorem okF_t {ls:List (List UInt8)} (h:∀ i,i<ls.length->okAt ls i=true):okF ls=true:=by
 unfold okF;rw [List.all_eq_true];intro i hi;exact h i (List.mem_range.1 hi)
theorem okF_f {ls:List (List UInt8)} {k:Nat} (hk:k<ls.length) (h:okAt ls k=false):okF ls=false:=by
 cases e:okF ls with
 | false=>rfl
 | true=>unfold okF at e;rw [List.all_eq_true] at e;rw [e k (List.mem_range.2 hk)] at h;cases h
theorem ok_s {ls:List (List UInt8)} {k:Nat} (h:∀ i,i<k->okAt ls i=true) (hk:okAt ls k=true):∀ i,i<k+1->okAt ls i=true:=fun i hi=>by
 rcases Nat.lt_or_eq_of_le (Nat.le_of_lt_succ hi) with h1 | rfl
 · exact h i h1
 · exact hk
end
section
set_option linter.unusedSimpArgs false
set_option linter.unusedVariables false
set_option linter.unusedSectionVars false
set_option maxHeartbeats 4000000
set_option maxRecDepth 100000
attribute [local irreducible] DW SeqD DV DOp DC DVX
def zg5:List (List UInt8)->List (List UInt8)->Bool
 | [],b=>b.isEmpty
 | x::a,b=>x==[35]||match b with
  | []=>false
  | y::b=>(x==[43]||x==y)&&zg5 a b
theorem ze7 (l:List (List UInt8)):List.take l.length (List.map V.str l)=List.map V.str l:=List.take_of_length_le (by simp)
def hidT (l:List UInt8):Bool:=l.take 1==[36]
def zok (a b:List (List UInt8)):Bool:=!(hidT (b.getD 0 default)&&(a.getD 0 default==[43]||a.getD 0 default==[35]))&&zg5 a b
section
attribute [local push_cast 2000] ze7
end
end
section
set_option linter.unusedSimpArgs false
set_option linter.unusedVariables false
set_option linter.unusedSectionVars false
section
variable {P:Program} {o:Oper} {f:Operand->V} {H:Own} {K:V->Own->Prop}
theorem DVop.lenm_ {e:Env} {mv tm:List Nat} {ops:Array Oper} {K':Env->Own->Prop} {i:Nat} {rest:List Oper} {x:Operand} {T:TypeId} {r:Nat} (hm:mv.contains i=false) (ht:tm.contains i=true) (hop:o.op = .call { callee:=.builtin .len,args:=#[x],argTypes:=#[T] }) (hx:opd e x = .raw (.map (some r)))
  (h:OnM H r fun m _=>(ty P T).kind=8/\FD P (mv++tm) ops (fun i' l' e'=>DV P mv tm ops K' i' l' e' H) (i+1) rest (putO e o.dst (.int .i64 m.length))):DVop P mv tm ops K' i o rest e H:=by
 obtain ⟨m,L1,L2,hH,h1,h2⟩:=h
 exact DVop.tm_ hm ht (DOp.lenm_ hop hx ⟨m,L1,L2,hH,h1,rfl,rfl⟩) h2
theorem DOp.slicet_ {t:TypeId} {x y:Operand} {v:Value} {l:List V} {k:IntKind} {m:Int} (hop:o.op = .slice t x (some y) none none) (hx:f x = .gs v l) (hy:f y = .int k m)
  (h:OnT H v fun sz C=>((ty P t).kind=4/\(ty P (ty P t).elem).kind≠0/\(ty P (ty P t).elem).kind≠11/\(ty P (ty P t).elem).size=sz/\0<=m/\m<=l.length/\∀ z∈l,z.n=sz)/\∀ v',K (.gs v' (l.drop m.toNat)) (C (.tail sz v'))):DOp P o f H K:=by
 obtain ⟨sz,L1,L2,rfl,⟨h1,h2,h3,h4,h5,h6,h7⟩,hk⟩:=h
 obtain ⟨mm,rfl⟩:∃ mm:Nat,m=mm:=⟨m.toNat,by omega⟩
 simp only [Int.toNat_natCast] at hk
 refine DOp.step fun a w hs hr=>?_
 have hv:=hr x (by simp [hop,Op.operands])
 have hyv:=hr y (by simp [hop,Op.operands])
 rw [hx] at hv
 rw [hy] at hyv
 have hey:a.eval y = .int k mm:=by generalize a.eval y=u at hyv;cases hyv;rfl
 clear hyv
 generalize hva:a.eval x=u at hv
 cases hv with
 | gs _ _ hsl =>
 cases hsl with
 | sl A n cap _ sz' hn hc ha r1 r2 r3 r4 =>
 have hmn:mm<=n:=by omega
 have hu:=za7 h1
 have hrun:(Instr.sliceAt t (a.eval x) ((some y).map a.eval) ((none:Option Operand).map a.eval) none).run P w = .ok (.slice (if cap=mm then A else A.map (·.add (mm * sz))) (n - mm) (cap - mm)) w:=by
  rw [hva]
  simp [Instr.sliceAt,Instr.slice,Sem.run_bind,run_underlying hu,Result.andThen,Instr.sliceBounds,hey,Instr.sliceBound,asIntOf,hmn,za0 h2 h3,h4]
 have hsz:∀ i,i<l.length->(l.getD i .any).n=sz:=fun i hi=>h7 _ (by rw [List.getD_eq_getElem?_getD,List.getElem?_eq_getElem hi];exact List.getElem_mem hi)
 have hh:=hs.holds (.tail sz (.slice A n cap)) (by simp)
 have hsw:=Sim.swap (w':=w) (e1:=.tail sz (.slice (if cap=mm then A else A.map (·.add (mm * sz))) (n - mm) (cap - mm))) hs rfl rfl rfl (Nat.le_refl _) (fun _ _ _=>rfl) (fun _ _ _=>rfl) (fun b h=>by
  cases A with
  | none=>split at h<;>exact h.elim
  | some p =>
   by_cases hcm:cap=mm
   · rw [if_pos hcm] at h;exact absurd h.2 (by omega)
   · rw [if_neg hcm] at h
     refine .inl ⟨?_,by omega⟩
     rw [h.1]
     show (Addr.add p (mm * sz)).block=_
     unfold Addr.add;split<;>rfl) (fun q h=>by
  cases A with
  | none=>split at h<;>exact h.elim
  | some p =>
   by_cases hcm:cap=mm
   · rw [if_pos hcm] at h
     obtain ⟨_,g1,g2⟩:=h
     have e1:(n - mm) * sz=0:=by rw [show n - mm=0 by omega,Nat.zero_mul]
     have e2:(cap - mm) * sz=0:=by rw [show cap - mm=0 by omega,Nat.zero_mul]
     omega
   · rw [if_neg hcm] at h
     obtain ⟨g0,g1,g2⟩:=h
     obtain ⟨s1,s2⟩:=hh
     obtain ⟨s0,_⟩:=s2 (by omega)
     dsimp only [Option.map] at g0 g1 g2
     rw [zaX p _ s0] at g0 g1 g2
     dsimp only at g0 g1 g2
     have e1:mm * sz+(n - mm) * sz=n * sz:=by rw [<-Nat.add_mul];congr 1;omega
     have e2:mm * sz+(cap - mm) * sz=cap * sz:=by rw [<-Nat.add_mul];congr 1;omega
     exact .inl ⟨g0,by omega,by omega⟩) (fun hst=>by
  cases A with
  | none =>
   obtain ⟨q1,q2⟩:=hh
   have e:(if cap=mm then (none:Option Addr) else (none:Option Addr).map (·.add (mm * sz)))=none:=by split<;>rfl
   rw [e]
   exact ⟨by omega,by omega⟩
  | some p =>
   obtain ⟨s1,s2⟩:=hh
   by_cases hcm:cap=mm
   · rw [if_pos hcm];exact ⟨by omega,fun h=>absurd h (by omega)⟩
   · rw [if_neg hcm]
     obtain ⟨s0,xs,T,fr,g1,g2,g3⟩:=s2 (by omega)
     show (_<=_)/\_
     simp only [zaX p _ s0]
     have e1:mm * sz+(n - mm) * sz=n * sz:=by rw [<-Nat.add_mul];congr 1;omega
     have e2:mm * sz+(cap - mm) * sz=cap * sz:=by rw [<-Nat.add_mul];congr 1;omega
     refine ⟨by omega,fun _=>⟨trivial,xs,T,fr,g1,?_,by omega⟩⟩
     rw [Nat.add_assoc,Nat.add_assoc,e1,e2];exact g2)
 refine ⟨.slice (if cap=mm then A else A.map (·.add (mm * sz))) (n - mm) (cap - mm),w, .gs (.slice (if cap=mm then A else A.map (·.add (mm * sz))) (n - mm) (cap - mm)) (l.drop mm),_,?_,hsw,?_,hk _⟩
 · unfold execOp
   rw [hop]
   simp only [Option.map_none,Option.map_some] at hrun ⊢
   rw [Sem.run_bind,hrun]
   rfl
 · refine .gs _ _ (R.mono (.sl _ _ _ (l.drop mm) sz (by rw [List.length_drop];omega) (by omega) (fun h=>?_) (fun b h hne=>?_) (fun i hi=>?_) (fun b i q hb hi hq=>?_) (fun b i q hb hi hq=>?_)) hsw.2.cells)
   · cases A with
     | none=>rw [ha rfl];simp
     | some p=>split at h<;>cases h
   · have hl:l≠[]:=fun e=>hne (by rw [e];simp)
     have hlt:mm<l.length:=by
      rcases Nat.lt_or_ge mm l.length with h8 | h8
      · exact h8
      · exact absurd (List.drop_eq_nil_of_le h8) hne
     cases A with
     | none=>exact absurd (ha rfl) hl
     | some p =>
      rw [if_neg (by omega)] at h
      injection h with h;subst h
      dsimp only
      rw [zaX p _ (r1 p rfl hl)]
   · rw [List.length_drop] at hi
     rw [show (l.drop mm).getD i V.any=l.getD (mm+i) .any by rw [List.getD_eq_getElem?_getD,List.getElem?_drop,<-List.getD_eq_getElem?_getD]]
     exact hsz _ (by omega)
   · rw [List.length_drop] at hi
     have hl:l≠[]:=fun e=>by rw [e] at hi;simp at hi
     cases A with
     | none=>exact absurd (ha rfl) hl
     | some p =>
      rw [if_neg (by omega)] at hb
      injection hb with hb;subst hb
      dsimp only
      rw [zaX p _ (r1 p rfl hl)]
      have hsz':sz'=sz:=by rw [<-r2 0 (List.length_pos_iff.2 hl)];exact hsz 0 (List.length_pos_iff.2 hl)
      have:=r3 p (mm+i) q rfl (by omega) (by omega)
      rw [hsz',Nat.add_mul,<-Nat.add_assoc] at this
      exact this
   · rw [List.length_drop] at hi
     have hl:l≠[]:=fun e=>by rw [e] at hi;simp at hi
     cases A with
     | none=>exact absurd (ha rfl) hl
     | some p =>
      rw [if_neg (by omega)] at hb
      injection hb with hb;subst hb
      dsimp only
      rw [zaX p _ (r1 p rfl hl)]
      have hsz':sz'=sz:=by rw [<-r2 0 (List.length_pos_iff.2 hl)];exact hsz 0 (List.length_pos_iff.2 hl)
      have:=r4 p (mm+i) q rfl (by omega) (by omega)
      rw [hsz',Nat.add_mul,<-Nat.add_assoc] at this
      rw [show (l.drop mm).getD i V.any=l.getD (mm+i) .any by rw [List.getD_eq_getElem?_getD,List.getElem?_drop,<-List.getD_eq_getElem?_getD]]
      exact this
end
end
section
set_option linter.unusedSimpArgs false
set_option linter.unusedVariables false
set_option linter.unusedSectionVars false
section
variable {P:Program} {o:Oper} {f:Operand->V} {H:Own} {K:V->Own->Prop}
end
end
section
set_option linter.unusedSimpArgs false
set_option linter.unusedVariables false
set_option linter.unusedSectionVars false
theorem zfw {xs:Array Value} (h:xs.size=1):∃ a,xs = #[a]:=by
 obtain ⟨l⟩:=xs
 match l,h with
 | [a],_=>exact ⟨a,rfl⟩
section
variable {P:Program} {ρ : Go.Shelf.Ren}
def sortedI (l:List Int):List Int:=l.mergeSort fun x y=>decide (x<=y)
end
end
end Go.Proofs.YtgekknefphagbaaGreatDoor
