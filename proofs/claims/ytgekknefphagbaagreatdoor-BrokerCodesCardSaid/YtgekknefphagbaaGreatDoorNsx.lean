/- A slice's rest with its spare room; a part that is put behind another part of the same row. No statement of the program. -/
import Derived.Test.YtgekknefphagbaaGreatDoorGzx
import Derived.Test.YtgekknefphagbaaGreatDoorMpx
import Derived.Test.YtgekknefphagbaaGreatDoorYmx
import Derived.KernelRfl
namespace Go.Proofs.YtgekknefphagbaaGreatDoor
open Go.RowKit
set_option linter.unusedSimpArgs false
set_option linter.unusedVariables false
set_option linter.unusedSectionVars false
section
section
variable {P:Program} {o:Oper} {f:Operand->V} {H:Own} {K:V->Own->Prop}
theorem DVop.lenm_ {e:Env} {mv tm:List Nat} {ops:Array Oper} {K':Env->Own->Prop} {i:Nat} {rest:List Oper} {x:Operand} {T:TypeId} {r:Nat} (hm:mv.contains i=false) (ht:tm.contains i=true) (hop:o.op = .call { callee:=.builtin .len,args:=#[x],argTypes:=#[T] }) (hx:opd e x = .raw (.map (some r)))
  (h:OnM H r fun m _=>(ty P T).kind=8/\FD P (mv++tm) ops (fun i' l' e'=>DV P mv tm ops K' i' l' e' H) (i+1) rest (putO e o.dst (.int .i64 m.length))):DVop P mv tm ops K' i o rest e H:=by
 obtain ⟨m,L1,L2,hH,h1,h2⟩:=h
 exact DVop.tm_ hm ht (DOp.lenm_ hop hx ⟨m,L1,L2,hH,h1,rfl,rfl⟩) h2
theorem DOp.slicet_ {t:TypeId} {x y:Operand} {v:Value} {l:List V} {k:IntKind} {m:Int} (hop:o.op = .slice t x (some y) none none) (hx:f x = .gs v l) (hy:f y = .int k m)
  (h:OnT H v fun sz C=>((ty P t).kind=4/\(ty P (ty P t).elem).kind≠0/\(ty P (ty P t).elem).kind≠11/\(ty P (ty P t).elem).size=sz/\0<=m/\m<=l.length/\∀ z∈l,z.n=sz)/\∀ v',K (.gs v' (l.drop m.toNat)) (C (.tail sz v'))):DOp P o f H K:=by
 obtain ⟨sz,L1,L2,rfl,⟨h1,h2,h3,h4,h5,h6,h7⟩,hk⟩:=h
 obtain ⟨mm,rfl⟩:∃ mm:Nat,m=mm:=⟨m.toNat,by omega⟩
 simp only [Int.toNat_natCast] at hk
 refine DOp.step fun a w hs hr=>?_
 have hv:=hr x (by simp [hop,Op.operands])
 have hyv:=hr y (by simp [hop,Op.operands])
 rw [hx] at hv
 rw [hy] at hyv
 have hey:a.eval y = .int k mm:=by generalize a.eval y=u at hyv;cases hyv;rfl
 clear hyv
 generalize hva:a.eval x=u at hv
 cases hv with
 | gs _ _ hsl =>
 cases hsl with
 | sl A n cap _ sz' hn hc ha r1 r2 r3 r4 =>
 have hmn:mm<=n:=by omega
 have hu:=zaN h1
 have hrun:(Instr.sliceAt t (a.eval x) ((some y).map a.eval) ((none:Option Operand).map a.eval) none).run P w = .ok (.slice (if cap=mm then A else A.map (·.add (mm * sz))) (n - mm) (cap - mm)) w:=by
  rw [hva]
  simp [Instr.sliceAt,Instr.slice,Sem.run_bind,run_underlying hu,Result.andThen,Instr.sliceBounds,hey,Instr.sliceBound,asIntOf,hmn,za2 h2 h3,h4]
 have hsz:∀ i,i<l.length->(l.getD i .any).n=sz:=fun i hi=>h7 _ (by rw [List.getD_eq_getElem?_getD,List.getElem?_eq_getElem hi];exact List.getElem_mem hi)
 have hh:=hs.holds (.tail sz (.slice A n cap)) (by simp)
 have hsw:=Sim.swap (w':=w) (e1:=.tail sz (.slice (if cap=mm then A else A.map (·.add (mm * sz))) (n - mm) (cap - mm))) hs rfl rfl rfl (Nat.le_refl _) (fun _ _ _=>rfl) (fun _ _ _=>rfl) (fun b h=>by
  cases A with
  | none=>split at h<;>exact h.elim
  | some p =>
   by_cases hcm:cap=mm
   · rw [if_pos hcm] at h;exact absurd h.2 (by omega)
   · rw [if_neg hcm] at h
     refine .inl ⟨?_,by omega⟩
     rw [h.1]
     show (Addr.add p (mm * sz)).block=_
     unfold Addr.add;split<;>rfl) (fun q h=>by
  cases A with
  | none=>split at h<;>exact h.elim
  | some p =>
   by_cases hcm:cap=mm
   · rw [if_pos hcm] at h
     obtain ⟨_,g1,g2⟩:=h
     have e1:(n - mm) * sz=0:=by rw [show n - mm=0 by omega,Nat.zero_mul]
     have e2:(cap - mm) * sz=0:=by rw [show cap - mm=0 by omega,Nat.zero_mul]
     omega
   · rw [if_neg hcm] at h
     obtain ⟨g0,g1,g2⟩:=h
     obtain ⟨s1,s2⟩:=hh
     obtain ⟨s0,_⟩:=s2 (by omega)
     dsimp only [Option.map] at g0 g1 g2
     rw [zbj p _ s0] at g0 g1 g2
     dsimp only at g0 g1 g2
     have e1:mm * sz+(n - mm) * sz=n * sz:=by rw [<-Nat.add_mul];congr 1;omega
     have e2:mm * sz+(cap - mm) * sz=cap * sz:=by rw [<-Nat.add_mul];congr 1;omega
     exact .inl ⟨g0,by omega,by omega⟩) (fun hst=>by
  cases A with
  | none =>
   obtain ⟨q1,q2⟩:=hh
   have e:(if cap=mm then (none:Option Addr) else (none:Option Addr).map (·.add (mm * sz)))=none:=by split<;>rfl
   rw [e]
   exact ⟨by omega,by omega⟩
  | some p =>
   obtain ⟨s1,s2⟩:=hh
   by_cases hcm:cap=mm
   · rw [if_pos hcm];exact ⟨by omega,fun h=>absurd h (by omega)⟩
   · rw [if_neg hcm]
     obtain ⟨s0,xs,T,fr,g1,g2,g3⟩:=s2 (by omega)
     show (_<=_)/\_
     simp only [zbj p _ s0]
     have e1:mm * sz+(n - mm) * sz=n * sz:=by rw [<-Nat.add_mul];congr 1;omega
     have e2:mm * sz+(cap - mm) * sz=cap * sz:=by rw [<-Nat.add_mul];congr 1;omega
     refine ⟨by omega,fun _=>⟨trivial,xs,T,fr,g1,?_,by omega⟩⟩
     rw [Nat.add_assoc,Nat.add_assoc,e1,e2];exact g2)
 refine ⟨.slice (if cap=mm then A else A.map (·.add (mm * sz))) (n - mm) (cap - mm),w, .gs (.slice (if cap=mm then A else A.map (·.add (mm * sz))) (n - mm) (cap - mm)) (l.drop mm),_,?_,hsw,?_,hk _⟩
 · unfold execOp
   rw [hop]
   simp only [Option.map_none,Option.map_some] at hrun ⊢
   rw [Sem.run_bind,hrun]
   rfl
 · refine .gs _ _ (R.mono (.sl _ _ _ (l.drop mm) sz (by rw [List.length_drop];omega) (by omega) (fun h=>?_) (fun b h hne=>?_) (fun i hi=>?_) (fun b i q hb hi hq=>?_) (fun b i q hb hi hq=>?_)) hsw.2.cells)
   · cases A with
     | none=>rw [ha rfl];simp
     | some p=>split at h<;>cases h
   · have hl:l≠[]:=fun e=>hne (by rw [e];simp)
     have hlt:mm<l.length:=by
      rcases Nat.lt_or_ge mm l.length with h8 | h8
      · exact h8
      · exact absurd (List.drop_eq_nil_of_le h8) hne
     cases A with
     | none=>exact absurd (ha rfl) hl
     | some p =>
      rw [if_neg (by omega)] at h
      injection h with h;subst h
      dsimp only
      rw [zbj p _ (r1 p rfl hl)]
   · rw [List.length_drop] at hi
     rw [show (l.drop mm).getD i V.any=l.getD (mm+i) .any by rw [List.getD_eq_getElem?_getD,List.getElem?_drop,<-List.getD_eq_getElem?_getD]]
     exact hsz _ (by omega)
   · rw [List.length_drop] at hi
     have hl:l≠[]:=fun e=>by rw [e] at hi;simp at hi
     cases A with
     | none=>exact absurd (ha rfl) hl
     | some p =>
      rw [if_neg (by omega)] at hb
      injection hb with hb;subst hb
      dsimp only
      rw [zbj p _ (r1 p rfl hl)]
      have hsz':sz'=sz:=by rw [<-r2 0 (List.length_pos_iff.2 hl)];exact hsz 0 (List.length_pos_iff.2 hl)
      have:=r3 p (mm+i) q rfl (by omega) (by omega)
      rw [hsz',Nat.add_mul,<-Nat.add_assoc] at this
      exact this
   · rw [List.length_drop] at hi
     have hl:l≠[]:=fun e=>by rw [e] at hi;simp at hi
     cases A with
     | none=>exact absurd (ha rfl) hl
     | some p =>
      rw [if_neg (by omega)] at hb
      injection hb with hb;subst hb
      dsimp only
      rw [zbj p _ (r1 p rfl hl)]
      have hsz':sz'=sz:=by rw [<-r2 0 (List.length_pos_iff.2 hl)];exact hsz 0 (List.length_pos_iff.2 hl)
      have:=r4 p (mm+i) q rfl (by omega) (by omega)
      rw [hsz',Nat.add_mul,<-Nat.add_assoc] at this
      rw [show (l.drop mm).getD i V.any=l.getD (mm+i) .any by rw [List.getD_eq_getElem?_getD,List.getElem?_drop,<-List.getD_eq_getElem?_getD]]
      exact this
end
end
section
set_option maxHeartbeats 4000000
set_option maxRecDepth 100000
def twoM (z:Int):YS:=[zbn (z.fdiv (2 ^ min 8 IntKind.i64.bits)),zbn z]
def zbB (t:YS):YS:=twoM t.length++t
def inM (v a b:Int):Bool:=decide (a<=v/\v<=b)
def zdZ (l:YS):Bool:=decide (l.length<=65535)&&chkB l
theorem zeg {α:Type} [Inhabited α] {l:List α} {k:Nat} (h:k<l.length):l.take (k+1)=l.take k++[l.getD k default]:=by
 rw [List.take_add_one,List.getD_eq_getElem?_getD,List.getElem?_eq_getElem h];rfl
theorem zoA {n:Int} (h:0<=n/\n<=255):V.int .u8 n=u8 (zbn n):=by
 rw [<-zci]
 have e:IntKind.u8.wrap n=n:=by simp [IntKind.wrap,IntKind.bits,IntKind.signed];omega
 rw [e]
@[simp] theorem za0 (z:Int):(twoM z).length=2:=rfl
@[simp] theorem za3 (t:YS):(zbB t).length=2+t.length:=by simp [zbB,za0]
theorem zh0 (l:YS) (z:Int):(l++twoM z).map u8=l.map u8++[V.int .u8 (IntKind.u8.wrap (z.fdiv (2 ^ min 8 IntKind.i64.bits))),V.int .u8 (IntKind.u8.wrap z)]:=by simp [twoM,zci]
theorem zoB (l t:YS):(l++twoM t.length).map u8++t.map u8=(l++zbB t).map u8:=by simp [zbB]
theorem zi8 (t:YS):(twoM t.length).map u8++t.map u8=(zbB t).map u8:=by simp [zbB]
attribute [local irreducible] DW SeqD DV DOp DC DVX chkB
theorem zhx (v a b:Int) (F:Own):(True)->DC Tryz.prog 181 [.int .i64 v, .int .i64 a, .int .i64 b] (([]:Own)++F) fun d G=>d = .bool (inM v a b)/\G=[]++F:=by
 intro hA
 refine DC.bodyS (n_:=15) (show Tryz.prog.funcs[181]? = some Tryz.f181 by kernel_rfl) rfl rfl (by rfl) ?_
 simp only [env0,List.cons_append,List.nil_append]
 have kw:=ksIs [0,1,2,6]
 have ow:=zaf []
 repeat' (first
  | refine g_ ?_
  | ((with_reducible refine And.intro ?_ ?_);(exact sv))
  | (refine DW.cond (by rfl) ?_ ?_<;>(first | exact i0_ | (refine ic_ ?_;intro hb)))
  | ((with_reducible refine zaa ?_ ?_)<;>(intro hb;rw [hb];revert hb;(first | exact i0_ | (refine i_ ?_;intro hb))))
  | refine r_ ?_
  | refine k_ ?_
  | refine o_ ?_
  | refine f_ ?_
  | with_reducible intro b)
 all_goals first
 | ((refine ⟨_,_,le.of_eq ?_,⟨rfl,rfl⟩,SubP.refl⟩);congr 1;rw [Bool.eq_iff_iff];(simp [inM]<;>omega);done)
 | (trace_state;fail)
section
attribute [local push_cast 2000] zbw zbl
theorem ze1 (l:YS) (F:Own):(l.length<=1000000000)->DC Tryz.prog 185 [.str l] (([]:Own)++F) fun d G=>d = .bool (zdZ l)/\G=[]++F:=by
 intro hA
 have hl:=hA
 refine DC.bodyS (n_:=12) (show Tryz.prog.funcs[185]? = some Tryz.f185 by kernel_rfl) rfl rfl (by rfl) ?_
 simp only [env0,List.cons_append,List.nil_append]
 have kw:=ksIs [0,2]
 have ow:=zaf []
 repeat' (first
  | refine g_ ?_
  | ((with_reducible refine And.intro ?_ ?_);(exact sv))
  | (refine DW.cond (by rfl) ?_ ?_<;>(first | exact i0_ | (refine ic_ ?_;intro hb)))
  | ((with_reducible refine zaa ?_ ?_)<;>(intro hb;rw [hb];revert hb;(first | exact i0_ | (refine i_ ?_;intro hb))))
  | refine r_ ?_
  | refine k_ ?_
  | (refine p_ (zkj _ _) ?_;rintro d H1 ⟨i1,rfl,hi1,rfl⟩<;>refine s_ ?_)
  | refine o_ ?_
  | refine f_ ?_
  | with_reducible intro b)
 all_goals first
 | ((refine ⟨_,_,le.of_eq ?_,⟨rfl,rfl⟩,?_⟩);rotate_left;(exact sub_);congr 1;unfold zdZ;(try rw [<-hi1]);rw [Bool.eq_iff_iff];(simp_all<;>omega);done)
 | (trace_state;fail)
end
theorem zlu {p:Prop} (h:p:=by first | exact sv | (simp [u8,V.one,V.n];omega) | (simp [u8,V.one,V.n]<;>fail) | fail):p:=h
section
attribute [local push_cast 2000] zaO
theorem ziW (v:Value) (n:Nat) (l:YS) (z:Int) (F:Own):(n=l.length/\l.length<=2000000000)->DC Tryz.prog 187 [.ar v n, .int .i64 z] (.arr 1 v (l.map u8)::([]:Own)++F) fun d G=>∃ v':Value,d = .ar v' (l++twoM z).length/\G = .arr 1 v' ((l++twoM z).map u8)::F:=by
 intro hA
 obtain ⟨hn,hl⟩:=hA
 refine DC.bodyS (n_:=13) (show Tryz.prog.funcs[187]? = some Tryz.f187 by kernel_rfl) rfl rfl (by rfl) ?_
 simp only [env0,List.cons_append,List.nil_append]
 have kw:=ksIs [0,1,4]
 have ow:=zaf []
 repeat' (first
  | refine g_ ?_
  | ((with_reducible refine And.intro ?_ ?_);(exact zlu))
  | (refine DW.cond (by rfl) ?_ ?_<;>(first | exact i0_ | (refine ic_ ?_;intro hb)))
  | ((with_reducible refine zaa ?_ ?_)<;>(intro hb;rw [hb];revert hb;(first | exact i0_ | (refine i_ ?_;intro hb))))
  | refine r_ ?_
  | refine k_ ?_
  | refine o_ ?_
  | refine f_ ?_
  | with_reducible intro b)
 all_goals first
 | ((rw [<-zh0]);refine ⟨_,_,le.of_eq ?_,⟨b,rfl,rfl⟩,?_⟩;(rw [hn];simp [za0]);(exact sub_);done)
 | (trace_state;fail)
end
section
attribute [local push_cast 2000] zaO zaR zas
theorem zp0 (z:Int) (F:Own):(True)->DC Tryz.prog 187 [.gs (.slice none 0 0) [], .int .i64 z] (([]:Own)++F) fun d G=>∃ v':Value,d = .ar v' (twoM z).length/\G = .arr 1 v' ((twoM z).map u8)::F:=by
 intro hA
 refine DC.bodyS (n_:=13) (show Tryz.prog.funcs[187]? = some Tryz.f187 by kernel_rfl) rfl rfl (by rfl) ?_
 simp only [env0,List.cons_append,List.nil_append]
 have kw:=ksIs [0,1,4]
 have ow:=zaf []
 repeat' (first
  | refine g_ ?_
  | ((with_reducible refine And.intro ?_ ?_);(exact sv_twoNE_dc))
  | (refine DW.cond (by rfl) ?_ ?_<;>(first | exact i0_ | (refine ic_ ?_;intro hb)))
  | ((with_reducible refine zaa ?_ ?_)<;>(intro hb;rw [hb];revert hb;(first | exact i0_ | (refine i_ ?_;intro hb))))
  | refine r_ ?_
  | refine k_ ?_
  | ((first | (refine DOp.app0a_ [12] rfl rfl rfl rfl (by intro h;cases h) ?_))<;>(refine s_ ?_))
  | refine o_ ?_
  | refine f_ ?_
  | with_reducible intro b)
 all_goals first
 | ((have e:=zh0 [] z);(simp only [List.map_nil,List.nil_append] at e ⊢);(rw [<-e]);refine ⟨_,_,le.of_eq ?_,⟨b,rfl,rfl⟩,?_⟩;rfl;(exact sub_);done)
 | (trace_state;fail)
end
theorem zge {p:Prop} (h:p:=by first | exact sv | (simp [u8,V.one,V.n];omega) | (simp [u8,V.one,V.n]<;>fail) | fail):p:=h
section
attribute [local push_cast 2000] zaO za0
theorem zjU (v:Value) (n:Nat) (l t:YS) (F:Own):(n=l.length/\l.length<=1000000000/\t.length<=1000000000)->DC Tryz.prog 186 [.ar v n, .str t] (.arr 1 v (l.map u8)::([]:Own)++F) fun d G=>∃ v':Value,d = .ar v' (l++zbB t).length/\G = .arr 1 v' ((l++zbB t).map u8)::F:=by
 intro hA
 obtain ⟨hn,hl,ht⟩:=hA
 refine DC.bodyS (n_:=11) (show Tryz.prog.funcs[186]? = some Tryz.f186 by kernel_rfl) rfl rfl (by rfl) ?_
 simp only [env0,List.cons_append,List.nil_append]
 have kw:=ksIs [0,1,4]
 have ow:=zaf []
 repeat' (first
  | refine g_ ?_
  | ((with_reducible refine And.intro ?_ ?_);(exact zge))
  | (refine DW.cond (by rfl) ?_ ?_<;>(first | exact i0_ | (refine ic_ ?_;intro hb)))
  | ((with_reducible refine zaa ?_ ?_)<;>(intro hb;rw [hb];revert hb;(first | exact i0_ | (refine i_ ?_;intro hb))))
  | refine r_ ?_
  | refine k_ ?_
  | (refine p_ (ziW _ _ _ _ _) ?_ (ha:=by exact zge);rintro d H1 ⟨v1,rfl,rfl⟩<;>refine s_ ?_)
  | refine o_ ?_
  | refine f_ ?_
  | with_reducible intro b)
 all_goals first
 | ((rw [zoB]);refine ⟨_,_,le.of_eq ?_,⟨b,rfl,rfl⟩,?_⟩;(rw [za3,Nat.add_assoc]);(exact sub_);done)
 | (trace_state;fail)
end
theorem zfr {p:Prop} (h:p:=by first | exact sv | (simp [u8,V.one,V.n];omega) | (simp [u8,V.one,V.n]<;>fail) | fail):p:=h
section
attribute [local push_cast 2000] zaO za0
theorem zmG (t:YS) (F:Own):(t.length<=1000000000)->DC Tryz.prog 186 [.gs (.slice none 0 0) [], .str t] (([]:Own)++F) fun d G=>∃ v':Value,d = .ar v' (zbB t).length/\G = .arr 1 v' ((zbB t).map u8)::F:=by
 intro hA
 have ht:=hA
 refine DC.bodyS (n_:=11) (show Tryz.prog.funcs[186]? = some Tryz.f186 by kernel_rfl) rfl rfl (by rfl) ?_
 simp only [env0,List.cons_append,List.nil_append]
 have kw:=ksIs [0,1,4]
 have ow:=zaf []
 repeat' (first
  | refine g_ ?_
  | ((with_reducible refine And.intro ?_ ?_);(exact zfr))
  | (refine DW.cond (by rfl) ?_ ?_<;>(first | exact i0_ | (refine ic_ ?_;intro hb)))
  | ((with_reducible refine zaa ?_ ?_)<;>(intro hb;rw [hb];revert hb;(first | exact i0_ | (refine i_ ?_;intro hb))))
  | refine r_ ?_
  | refine k_ ?_
  | (refine p_ (zp0 _ _) ?_ (ha:=by exact zfr);rintro d H1 ⟨v1,rfl,rfl⟩<;>refine s_ ?_)
  | refine o_ ?_
  | refine f_ ?_
  | with_reducible intro b)
 all_goals first
 | ((rw [zi8]);refine ⟨_,_,le.of_eq ?_,⟨b,rfl,rfl⟩,?_⟩;(rw [za3]);(exact sub_);done)
 | (trace_state;fail)
end
end
section
set_option maxHeartbeats 4000000
set_option maxRecDepth 100000
structure PkN (p:Pk):Prop where
 topic:p.topic.length<=100000
 payload:p.payload.length<=100000
 client:p.client.length<=100000
 wtopic:p.wtopic.length<=100000
 wpay:p.wpay.length<=100000
 user:p.user.length<=100000
 pass:p.pass.length<=100000
 subs:p.subs.length<=1000
 flt:∀ k,(p.subs.getD k default).1.length<=100000
 codes:p.codes.length<=100000
def subM (c:Int) (x:YS×Int):YS:=zbB x.1++(if c=8 then [zbn x.2] else [])
def zim (c:Int) (l:List (YS×Int)):YS:=l.flatMap (subM c)
def zn1 (p:Pk):Int:=(if p.clean=true then 2 else 0)+(if p.hasWill=true then 4 else 0)+8 * p.wqos+(if p.wretain=true then 32 else 0)+(if p.hasPass=true then 64 else 0)+(if p.hasUser=true then 128 else 0)
def zbi (p:Pk):YS :=
 if p.kind=1 then zbB [77,81,84,84]++[zbn p.level,zbn (zn1 p)]++twoM p.keep++zbB p.client++(if p.hasWill=true then zbB p.wtopic++zbB p.wpay else [])++(if p.hasUser=true then zbB p.user else [])++(if p.hasPass=true then zbB p.pass else [])
 else if p.kind=2 then [zbn (if p.present=true then 1 else 0),zbn p.code]
 else if p.kind=3 then zbB p.topic++(if 0<p.qos then twoM p.id else [])++p.payload
 else if p.kind=12\/p.kind=13\/p.kind=14 then []
 else twoM p.id++zim p.kind p.subs++p.codes.map zbn
theorem zqe (c:Int) {l:List (YS×Int)} {k:Nat} (h:k<l.length):zim c (l.take (k+1))=zim c (l.take k)++subM c (l.getD k default):=by
 unfold zim;rw [zeg h,List.flatMap_append];simp
theorem znF {l:List Int} {k:Nat} (h:k<l.length):(l.take (k+1)).map zbn=(l.take k).map zbn++[zbn (l.getD k default)]:=by
 rw [zeg h,List.map_append];rfl
theorem zgi {a b:Int} (h:(a - b)%256=0):zbn a=zbn b:=by
 have e:IntKind.u8.wrap a=IntKind.u8.wrap b:=by simp [IntKind.wrap,IntKind.bits,IntKind.signed];omega
 unfold zbn;rw [e]
theorem flag_w (a b c d e q:Int):zbn (IntKind.i64.wrap (IntKind.i64.wrap (IntKind.i64.wrap (IntKind.i64.wrap ((a+b)+IntKind.i64.wrap (8 * q))+c)+d)+e))=zbn (a+b+8 * q+c+d+e):=zgi (by simp [IntKind.wrap,IntKind.bits,IntKind.signed];omega)
theorem zet {b:Value} {n:Nat} {l:YS} {p:Pk} {F H:Own} (h:l=zbi p) (hn:n=l.length) (hs:SubP (.arr 1 b (l.map u8)::F) H):∃ d' G,le (V.ar b n) d'/\(∃ v:Value,d' = .ar v (zbi p).length/\G = .arr 1 v ((zbi p).map u8)::F)/\SubP G H:=by
 subst h hn;exact ⟨_,_,le.rfl_,⟨b,rfl,rfl⟩,hs⟩
theorem ziL (l:YS) (a:Int):l.map u8++[V.int .u8 (IntKind.u8.wrap a)]=(l++[zbn a]).map u8:=by rw [zci];simp
theorem zia (l:YS) (a c:Int):l.map u8++[V.int .u8 (IntKind.u8.wrap a),V.int .u8 (IntKind.u8.wrap c)]=(l++[zbn a,zbn c]).map u8:=by rw [zci,zci];simp
theorem zm2 (v:Value) (n:Nat) (t:YS) (F:Own):(n=0/\t.length<=1000000000)->DC Tryz.prog 186 [.ar v n, .str t] ([.arr 1 v []]++F) fun d G=>∃ v':Value,d = .ar v' (zbB t).length/\G = .arr 1 v' ((zbB t).map u8)::F:=fun ⟨h,ht⟩=>by
 subst h
 have:=zjU v 0 [] t F ⟨rfl,by decide,ht⟩
 simpa only [List.nil_append,List.map_nil] using this
theorem zpx (v:Value) (n:Nat) (z:Int) (F:Own):(n=0)->DC Tryz.prog 187 [.ar v n, .int .i64 z] ([.arr 1 v []]++F) fun d G=>∃ v':Value,d = .ar v' (twoM z).length/\G = .arr 1 v' ((twoM z).map u8)::F:=fun h=>by
 subst h
 have:=ziW v 0 [] z F ⟨rfl,by decide⟩
 simpa only [List.nil_append,List.map_nil] using this
theorem nil_arE:le (.gs (.slice none 0 0) []) (.ar (.slice none 0 0) 0):=fun S w u r=>by
 cases r with
 | gs v l r=>exact .ar none 0 0 (Nat.le_refl _) fun _=>rfl
abbrev YSw:=List UInt8
theorem zm8 (F:Own):True->DC Tryz.prog 186 [.gs (.slice none 0 0) [], .str [77,81,84,84]] ([]++F) fun d G=>∃ v':Value,d = .ar v' (zbB [77,81,84,84]).length/\G = .arr 1 v' ((zbB [77,81,84,84]).map u8)::F:=fun _=>zmG [77,81,84,84] F (by decide)
attribute [local irreducible] DW SeqD DV DOp DC DVX
theorem zbI {p:Prop} (h:p:=by first | exact sv | (refine ⟨?_,?_⟩<;>((try simp only [List.length_append,List.length_cons,List.length_nil,za0,za3])<;>omega)) | (refine ⟨?_,?_,?_⟩<;>((try simp only [List.length_append,List.length_cons,List.length_nil,za0,za3])<;>omega)) | (simp [u8,V.one,V.n];omega) | (simp [u8,V.one,V.n]<;>fail) | fail):p:=h
section
attribute [local push_cast 2000] zia ziL zaO zbw zbl encU za0 za3
theorem zoU (p:Pk) (F:Own):(PkN p)->DC Tryz.prog 139 [.agg [.int .i64 p.kind, .bool p.dup, .bool p.retain, .int .i64 p.qos, .int .i64 p.id, .str p.topic, .sl (p.payload.map u8), .int .i64 p.level, .str p.client, .bool p.clean, .int .i64 p.keep, .bool p.hasWill, .str p.wtopic, .sl (p.wpay.map u8), .int .i64 p.wqos, .bool p.wretain, .bool p.hasUser, .bool p.hasPass, .str p.user, .sl (p.pass.map u8), .bool p.present, .int .i64 p.code, .sl (p.subs.map encU), .sl (p.codes.map (V.int .i64))]] (([]:Own)++F) fun d G=>∃ v':Value,d = .ar v' (zbi p).length/\G = .arr 1 v' ((zbi p).map u8)::F:=by
 intro hA
 have hp:=hA
 refine DC.bodyS (n_:=157) (show Tryz.prog.funcs[139]? = some Tryz.f139 by kernel_rfl) rfl rfl (by rfl) ?_
 simp only [env0,List.cons_append,List.nil_append]
 have kw:=ksIs [0,1,2,3,4,5,7,8,50,62,68,75,87,95,104,116,129,144]
 have ow:=zaf []
 have dw4:=drIs 4 [0,6,9,19,23,27,31] []
 have dw5:=drIs 5 [3,6] [2]
 have dw7:=drIs 7 [4,9] [3]
 have dw14:=drIs 14 [9] [2,3,6]
 have s1:=hp.subs;have s2:=hp.codes;have h1:=hp.topic;have h2:=hp.payload;have h3:=hp.client;have h4:=hp.wtopic;have h5:=hp.wpay;have h6:=hp.user;have h7:=hp.pass
 repeat' (first
  | ((refine DW.own0 1 3 (by rfl) ?_);(simp only [zcf,zcK,Nat.reduceEqDiff,↓reduceIte,if_true,if_false,reduceCtorEq]))
  | ((with_reducible refine DW.loopB 1 (X:=Nat×Value×YSw) (fun x=>x.1<=p.subs.length/\x.2.2=twoM p.id++zim p.kind (p.subs.take x.1)/\x.2.2.length<=2+100003 * x.1) (fun x=>[(1, .sp [.int .i64 p.kind, .bool p.dup, .bool p.retain, .int .i64 p.qos, .int .i64 p.id, .str p.topic, .sl (p.payload.map u8), .int .i64 p.level, .str p.client, .bool p.clean, .int .i64 p.keep, .bool p.hasWill, .str p.wtopic, .sl (p.wpay.map u8), .int .i64 p.wqos, .bool p.wretain, .bool p.hasUser, .bool p.hasPass, .str p.user, .sl (p.pass.map u8), .bool p.present, .int .i64 p.code, .sl (p.subs.map encU), .sl (p.codes.map (V.int .i64))]),(3, .ar x.2.1 x.2.2.length),(4, .int .i64 x.1)]) (fun x=>.arr 1 x.2.1 (x.2.2.map u8)::([]:Own)) (fun x=>p.subs.length - x.1) ((0,v1,twoM p.id)) ?_ ?_ ?_);exact (⟨Nat.zero_le _,by simp [zim],by simp [za0]⟩);(simp [Sub,get,zaW]<;>fail);(try simp only [List.cons_append,List.nil_append]);refine pl_ ?_;intro ⟨k,y,l⟩ ⟨hk,hle,hlk⟩;(try simp only [List.cons_append,List.nil_append]);(try simp only at hk hle hlk);have hfl:=hp.flt k)
  | ((with_reducible refine DW.loopB 3 (X:=Nat×Value×YSw) (fun x=>x.1<=p.codes.length/\x.2.2=twoM p.id++zim p.kind p.subs++(p.codes.take x.1).map zbn/\x.2.2.length<=2+100003 * 1000+x.1) (fun x=>[(1, .sp [.int .i64 p.kind, .bool p.dup, .bool p.retain, .int .i64 p.qos, .int .i64 p.id, .str p.topic, .sl (p.payload.map u8), .int .i64 p.level, .str p.client, .bool p.clean, .int .i64 p.keep, .bool p.hasWill, .str p.wtopic, .sl (p.wpay.map u8), .int .i64 p.wqos, .bool p.wretain, .bool p.hasUser, .bool p.hasPass, .str p.user, .sl (p.pass.map u8), .bool p.present, .int .i64 p.code, .sl (p.subs.map encU), .sl (p.codes.map (V.int .i64))]),(3, .ar x.2.1 x.2.2.length),(5, .int .i64 x.1)]) (fun x=>.arr 1 x.2.1 (x.2.2.map u8)::([]:Own)) (fun x=>p.codes.length - x.1) ((0,y,l)) ?_ ?_ ?_);exact (⟨Nat.zero_le _,by (have hkk:k=p.subs.length:=by omega);(subst hkk);simp [hle],by (try simp only);omega⟩);(simp [Sub,get,zaW]<;>fail);(try simp only [List.cons_append,List.nil_append]);refine pl_ ?_;intro ⟨i,z,m⟩ ⟨hi,hme,hmi⟩;(try simp only [List.cons_append,List.nil_append]);(try simp only at hi hme hmi))
  | refine g_ ?_
  | ((with_reducible refine And.intro ?_ ?_);(exact zbI))
  | (refine DW.cond (by rfl) ?_ ?_<;>(first | exact i0_ | (refine ic_ ?_;intro hb)))
  | ((with_reducible first | refine zaa ?_ ?_ | refine zai ?_ ?_)<;>(intro hb;rw [hb];revert hb;(first | exact i0_ | (refine i_ ?_;intro hb))))
  | refine r_ ?_
  | refine d_ ?_
  | refine k_ ?_
  | ((refine dm_ ?_);(first | (refine v_ (zjH _ _ _) ?_ (ha:=by exact zbI))))
  | refine vo_ ?_
  | (refine p_ (zm2 _ _ _ _) ?_ (ha:=by exact zbI);rintro d H1 ⟨v1,rfl,rfl⟩<;>refine s_ ?_)
  | (refine p_ (zpx _ _ _ _) ?_ (ha:=by exact zbI);rintro d H1 ⟨v1,rfl,rfl⟩<;>refine s_ ?_)
  | (refine p_ (zm8 _) ?_ (ha:=by exact zbI);rintro d H1 ⟨v1,rfl,rfl⟩<;>refine s_ ?_)
  | ((first | refine p_ (zjU _ _ _ _ _) ?_ (ha:=by exact zbI) | refine p_ (ziW _ _ _ _ _) ?_ (ha:=by exact zbI));rintro d H1 ⟨v1,rfl,rfl⟩<;>refine s_ ?_)
  | (refine q_ (zjH _ _ _) ?_ (ha:=by exact zbI))
  | refine o_ ?_
  | refine f_ ?_
  | refine vm_ ?_
  | with_reducible intro b)
 all_goals first
 | ((try have hq0:¬ (0<p.qos):=by omega);(refine zet ?_ ?_ (by exact sub_));(focus (unfold zbi;(simp only [*,zn1,List.cons_append,↓reduceIte,reduceCtorEq,Int.reduceEq,if_true,if_false,List.append_assoc,List.append_nil,List.nil_append,or_true,true_or,or_self]);done));((try simp only [List.length_append,List.length_cons,List.length_nil,za0,za3])<;>(try omega));done)
 | ((rw [flag_w]);(try have hq0:¬ (0<p.qos):=by omega);(refine zet ?_ ?_ (by exact sub_));(focus (unfold zbi;(simp only [*,zn1,List.cons_append,↓reduceIte,reduceCtorEq,Int.reduceEq,if_true,if_false,List.append_assoc,List.append_nil,List.nil_append,or_true,true_or,or_self]);done));((try simp only [List.length_append,List.length_cons,List.length_nil,za0,za3])<;>(try omega));done)
 | ((rw [<-List.map_append]);(try have hq0:¬ (0<p.qos):=by omega);(refine zet ?_ ?_ (by exact sub_));(focus (unfold zbi;(simp only [*,zn1,List.cons_append,↓reduceIte,reduceCtorEq,Int.reduceEq,if_true,if_false,List.append_assoc,List.append_nil,List.nil_append,or_true,true_or,or_self]);done));((try simp only [List.length_append,List.length_cons,List.length_nil,za0,za3])<;>(try omega));done)
 | ((rw [show V.int .u8 (if p.present=true then 1 else 0)=u8 (zbn (if p.present=true then 1 else 0)) from zoA (by split<;>omega),zci,one2]);(try have hq0:¬ (0<p.qos):=by omega);(refine zet ?_ ?_ (by exact sub_));(focus (unfold zbi;(simp only [*,zn1,List.cons_append,↓reduceIte,reduceCtorEq,Int.reduceEq,if_true,if_false,List.append_assoc,List.append_nil,List.nil_append,or_true,true_or,or_self]);done));((try simp only [List.length_append,List.length_cons,List.length_nil,za0,za3])<;>(try omega));done)
 | ((have e:zbi p=[]:=by unfold zbi;simp [*]);(rw [e]);(exact ⟨_,_,nil_arE,⟨_,rfl,rfl⟩,SubP.refl⟩);done)
 | ((have hii:i=p.codes.length:=by omega);(subst hii);(refine zet ?_ ?_ (by exact sub_));(focus (unfold zbi;(simp_all [List.take_length]);done));((try simp only [List.length_append,List.length_cons,List.length_nil,za0,za3])<;>(try omega));done)
 | (refine ⟨(k+1,b,l++(zbB (p.subs.getD k default).1++[zbn (p.subs.getD k default).2])),⟨by (try simp only);omega,by (rw [zqe _ (by omega),hle];simp [subM, *]),by ((try simp only [List.length_append,List.length_cons,List.length_nil,za0,za3])<;>omega)⟩,by (try simp only);omega,by simp [Sub,get,za0,za3,Nat.add_assoc],?_⟩;((try dsimp only);(exact sub_));done)
 | (refine ⟨(k+1,v1,l++zbB (p.subs.getD k default).1),⟨by (try simp only);omega,by (rw [zqe _ (by omega),hle];simp [subM, *]),by ((try simp only [List.length_append,List.length_cons,List.length_nil,za0,za3])<;>omega)⟩,by (try simp only);omega,by simp [Sub,get,za0,za3,Nat.add_assoc],?_⟩;((try dsimp only);(exact sub_));done)
 | (refine ⟨(i+1,b,m++[zbn (p.codes.getD i default)]),⟨by (try simp only);omega,by (rw [znF (by omega),hme];simp),by ((try simp only [List.length_append,List.length_cons,List.length_nil,za0,za3])<;>omega)⟩,by (try simp only);omega,by simp [Sub,get],?_⟩;((try dsimp only);(exact sub_));done)
 | (trace_state;fail)
end
end
section
set_option maxHeartbeats 4000000
set_option maxRecDepth 100000
theorem pk_ext {p q:Pk} (h:p.kind=q.kind/\p.dup=q.dup/\p.retain=q.retain/\p.qos=q.qos/\p.id=q.id/\p.topic=q.topic/\p.payload=q.payload/\p.level=q.level/\p.client=q.client/\p.clean=q.clean/\p.keep=q.keep/\p.hasWill=q.hasWill/\p.wtopic=q.wtopic/\p.wpay=q.wpay/\p.wqos=q.wqos/\p.wretain=q.wretain/\p.hasUser=q.hasUser/\p.hasPass=q.hasPass/\p.user=q.user/\p.pass=q.pass/\p.present=q.present/\p.code=q.code/\p.subs=q.subs/\p.codes=q.codes):p=q:=by
 cases p;cases q;simp_all
open Classical in
noncomputable def zer (p q:Pk):Bool:=decide (p=q)
open Classical in
theorem sameM_f {p q:Pk} (h:p≠q):zer p q=false:=by unfold zer;exact decide_eq_false h
open Classical in
theorem sameM_t {p q:Pk} (h:p=q):zer p q=true:=by unfold zer;exact decide_eq_true h
open Classical in
theorem zms (p q:Pk):zer p q=true↔p=q:=by unfold zer;exact decide_eq_true_iff
end
section
set_option maxHeartbeats 4000000
set_option maxRecDepth 100000
abbrev YSx:=List UInt8
def zck (n:Int):Nat:=if n<0\/268435455<n then 0 else if n<128 then 1 else if n<16384 then 2 else if n<2097152 then 3 else 4
theorem zfA {n:Int} (h:zck n≠0):0<=n/\n<268435456:=by
 unfold zck at h
 split at h
 · exact absurd rfl h
 · omega
theorem fdiv7 (m k:Nat) (hk:k<=3):((m:Int)).fdiv (2 ^ min (7 * (k:Int)).toNat IntKind.i64.bits)=((m / 128 ^ k:Nat):Int):=by
 obtain rfl | rfl | rfl | rfl:k=0\/k=1\/k=2\/k=3:=by omega
 · rw [Int.fdiv_eq_ediv_of_nonneg _ (by decide)];simp
 · rw [Int.fdiv_eq_ediv_of_nonneg _ (by decide),show (2:Int) ^ min (7 * ((1:Nat):Int)).toNat IntKind.i64.bits=128 from by decide];omega
 · rw [Int.fdiv_eq_ediv_of_nonneg _ (by decide),show (2:Int) ^ min (7 * ((2:Nat):Int)).toNat IntKind.i64.bits=16384 from by decide];omega
 · rw [Int.fdiv_eq_ediv_of_nonneg _ (by decide),show (2:Int) ^ min (7 * ((3:Nat):Int)).toNat IntKind.i64.bits=2097152 from by decide];omega
theorem and7 (y:Nat) (h:y<268435456):(BitVec.ofInt 64 (y:Int) &&& BitVec.ofInt 64 127).toNat=y%128:=by
 rw [BitVec.toNat_and]
 have e1:(BitVec.ofInt 64 (y:Int)).toNat=y:=by simp;omega
 have e2:(BitVec.ofInt 64 127).toNat=2 ^ 7 - 1:=by decide
 rw [e1,e2,Nat.and_two_pow_sub_one_eq_mod]
theorem low7 (m k:Nat) (hm:m<268435456) (hk:k<=3):IntKind.i64.wrap ((BitVec.ofInt IntKind.i64.bits ((m:Int).fdiv (2 ^ min (7 * (k:Int)).toNat IntKind.i64.bits)) &&& BitVec.ofInt IntKind.i64.bits 127).toNat:Int)=((m / 128 ^ k%128:Nat):Int):=by
 rw [fdiv7 m k hk]
 have e:=and7 (m / 128 ^ k) (Nat.lt_of_le_of_lt (Nat.div_le_self _ _) hm)
 rw [show IntKind.i64.bits=64 from rfl,e]
 have:m / 128 ^ k%128<128:=Nat.mod_lt _ (by decide)
 simp [IntKind.wrap,IntKind.bits,IntKind.signed];omega
theorem hi7:∀ r:Fin 128,(BitVec.ofInt IntKind.u8.bits (IntKind.u8.wrap ((r.val:Nat):Int))|||BitVec.ofInt IntKind.u8.bits 128).toNat=r.val+128:=by decide
theorem low7i (n:Int) (k:Nat) (h0:0<=n) (h1:n<268435456) (hk:k<=3):IntKind.i64.wrap ((BitVec.ofInt IntKind.i64.bits (n.fdiv (2 ^ min (7 * (k:Int)).toNat IntKind.i64.bits)) &&& BitVec.ofInt IntKind.i64.bits 127).toNat:Int)=((n.toNat / 128 ^ k%128:Nat):Int):=by
 have e:=low7 n.toNat k (by omega) hk
 rwa [Int.toNat_of_nonneg h0] at e
theorem hi7n (r:Nat) (h:r<128):(BitVec.ofInt IntKind.u8.bits (IntKind.u8.wrap (r:Int))|||BitVec.ofInt IntKind.u8.bits 128).toNat=r+128:=hi7 ⟨r,h⟩
def varM (n:Int):YS:=(List.range (zck n)).map fun k=>zbn ((if k+1<zck n then n.toNat / 128 ^ k%128+128 else n.toNat / 128 ^ k%128:Nat):Int)
theorem zdR (n:Int):(varM n).length=zck n:=by simp [varM]
theorem zpV {n:Int} {k:Nat} (h:k<zck n):(varM n).take (k+1)=(varM n).take k++[zbn ((if k+1<zck n then n.toNat / 128 ^ k%128+128 else n.toNat / 128 ^ k%128:Nat):Int)]:=by
 rw [List.take_add_one];congr 1;unfold varM;simp [h]
theorem zqf {n:Int} {k:Nat} (h:k+1<zck n):(varM n).take (k+1)=(varM n).take k++[zbn ((n.toNat / 128 ^ k%128+128:Nat):Int)]:=by rw [zpV (by omega),if_pos h]
theorem zqk {n:Int} {k:Nat} (h:k<zck n) (h2:¬ k+1<zck n):(varM n).take (k+1)=(varM n).take k++[zbn ((n.toNat / 128 ^ k%128:Nat):Int)]:=by rw [zpV h,if_neg h2]
theorem zf6 (n:Int):zck n<=4:=by unfold zck;(repeat' split)<;>decide
attribute [local irreducible] DW SeqD DV DOp DC DVX zck varM
theorem zjG (n:Int) (F:Own):(True)->DC Tryz.prog 133 [.int .i64 n] (([]:Own)++F) fun d G=>d = .int .i64 (zck n)/\G=[]++F:=by
 intro hA
 refine DC.bodyS (n_:=19) (show Tryz.prog.funcs[133]? = some Tryz.f133 by kernel_rfl) rfl rfl (by rfl) ?_
 simp only [env0,List.cons_append,List.nil_append]
 have kw:=ksIs [0,2,3,10,13,16]
 have ow:=zaf []
 repeat' (first
  | refine g_ ?_
  | ((with_reducible refine And.intro ?_ ?_);(exact sv))
  | (refine DW.cond (by rfl) ?_ ?_<;>(first | exact i0_ | (refine ic_ ?_;intro hb)))
  | ((with_reducible refine zaa ?_ ?_)<;>(intro hb;rw [hb];revert hb;(first | exact i0_ | (refine i_ ?_;intro hb))))
  | refine r_ ?_
  | refine k_ ?_
  | refine o_ ?_
  | refine f_ ?_
  | with_reducible intro b)
 all_goals first
 | ((refine ⟨_,_,le.of_eq ?_,⟨rfl,rfl⟩,?_⟩);rotate_left;(exact sub_);congr 1;unfold zck;(repeat' split)<;>(first | rfl | omega))
 | (trace_state;fail)
theorem zgR {p:Prop} (h:p:=by first | exact sv | (refine ⟨?_,?_,fun _ _=>rfl⟩<;>omega) | fail):p:=h
theorem putE_dc (n:Int) (F:Own):(True)->DC Tryz.prog 140 [.int .i64 n] (([]:Own)++F) fun d G=>∃ e:Int,(zck n≠0->e=0)/\d = .tup [.sl ((varM n).map u8), .int .i64 e]/\G=[]++F:=by
 intro hA
 refine DC.bodyS (n_:=34) (show Tryz.prog.funcs[140]? = some Tryz.f140 by kernel_rfl) rfl rfl (by rfl) ?_
 simp only [env0,List.cons_append,List.nil_append]
 have kw:=ksIs [0,2,3,4,5,6,7,11,14,26]
 have ow:=zaf []
 have hz4:=zf6 n
 refine DW.tail0 1 ?_
 repeat' (first
  | ((with_reducible refine DW.loopB 0 (X:=Nat×Value×YSx) (fun x=>x.1<=zck n/\x.2.2=(varM n).take x.1/\x.2.2.length=x.1) (fun x=>[(0, .int .i64 n),(4, .int .i64 (zck n)),(5, .gs x.2.1 (x.2.2.map u8)),(6, .int .i64 x.1)]) (fun x=>.tail 1 x.2.1::([]:Own)) (fun x=>zck n - x.1) ((0, .slice none 0 0,[])) ?_ ?_ ?_);exact (⟨Nat.zero_le _,rfl,rfl⟩);(simp [Sub,get,zaW]<;>fail);(try simp only [List.cons_append,List.nil_append]);refine pl_ ?_;intro ⟨k,v,x⟩ ⟨hk,hxe,hx⟩;(try simp only [List.cons_append,List.nil_append]);(try simp only at hk hxe hx))
  | refine g_ ?_
  | ((with_reducible refine And.intro ?_ ?_);(exact zgR))
  | (refine DW.cond (by rfl) ?_ ?_<;>(first | exact i0_ | (refine ic_ ?_;intro hb)))
  | ((with_reducible refine zaa ?_ ?_)<;>(intro hb;rw [hb];revert hb;(first | exact i0_ | (refine i_ ?_;intro hb))))
  | refine r_ ?_
  | refine k_ ?_
  | (refine q_ (zjG _ _) ?_ (ha:=by exact zgR))
  | refine o_ ?_
  | refine f_ ?_
  | with_reducible intro b)
 all_goals first
 | ((have e0:varM n=[]:=List.eq_nil_of_length_eq_zero (by rw [zdR];omega));(rw [e0]);refine ⟨_,_,le.tup (Les.cons (le.gs List.map_nil.symm) (Les.cons le.rfl_ Les.nil)),⟨_,(fun h=>absurd (by omega) h),rfl,rfl⟩,?_⟩;(exact sub_);done)
 | ((rw [List.take_of_length_le (by rw [zdR];omega)] at hxe);(subst hxe);refine ⟨_,_,le.tup (Les.cons (le.gs rfl) (Les.cons le.rfl_ Les.nil)),⟨0,(fun _=>rfl),rfl,rfl⟩,?_⟩;(exact sub_);done)
 | ((obtain ⟨n0,n1⟩:=zfA (n:=n) (by omega));(rw [low7i n k n0 n1 (by omega),hi7n _ (Nat.mod_lt _ (by decide)),zci]);refine ⟨(k+1,b,x++[zbn ((n.toNat / 128 ^ k%128+128:Nat):Int)]),⟨by (try simp only);omega,by (rw [zqf (by omega),<-hxe]),by simp [hx]⟩,by (try simp only);omega,by simp [Sub,get],?_⟩;((try dsimp only);(exact sub_));done)
 | ((obtain ⟨n0,n1⟩:=zfA (n:=n) (by omega));(rw [low7i n k n0 n1 (by omega),zci]);refine ⟨(k+1,b,x++[zbn ((n.toNat / 128 ^ k%128:Nat):Int)]),⟨by (try simp only);omega,by (rw [zqk (by omega) (by omega),<-hxe]),by simp [hx]⟩,by (try simp only);omega,by simp [Sub,get],?_⟩;((try dsimp only);(exact sub_));done)
 | (trace_state;fail)
end
end Go.Proofs.YtgekknefphagbaaGreatDoor
