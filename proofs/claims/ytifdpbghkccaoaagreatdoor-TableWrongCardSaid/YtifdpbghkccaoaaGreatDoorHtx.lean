/- A text is told to a builder; one builder is made; a table is told. -/
import Derived.Test.YtifdpbghkccaoaaGreatDoorKbx
import Derived.Test.YtifdpbghkccaoaaGreatDoorDd2x
import Derived.KernelRfl
import Derived.Test.YtifdpbghkccaoaaGreatDoorMjx
import Derived.Test.YtifdpbghkccaoaaGreatDoorSsx
import Derived.Test.YtifdpbghkccaoaaGreatDoorEqx
import Derived.Test.YtifdpbghkccaoaaGreatDoorPt7x
namespace Go.Proofs.YtifdpbghkccaoaaGreatDoor
open Go.RowKit
set_option linter.unusedSimpArgs false
set_option linter.unusedVariables false
set_option linter.unusedSectionVars false
set_option maxHeartbeats 4000000
set_option maxRecDepth 100000
section
theorem nums3_dc (T:TypeId) (bk off:Nat) (cs:List V) (v:Value) (l:List UInt8) (a b c:Int) (T5:TypeId) (fr:Nat×Nat) (F:Own):(BAt T bk off cs v l.length/\(i64b a/\i64b b/\i64b c)/\l.length<=1000000)->DC Tryz.prog 61 [.raw (.pointer (some ⟨bk,off,none⟩)), .sl [.int .i64 a, .int .i64 b, .int .i64 c]] ([.tb T bk cs, .ba 5 v l,knP T5 fr]++F) fun d G=>∃ v' cs',BAt T bk off cs' v' (l++numsT [a,b,c]).length/\d = .tup []/\G=[.tb T bk cs', .ba 5 v' (l++numsT [a,b,c]),knP T5 fr]++F:=fun h =>
 tnums_dc T bk off cs v l [a,b,c] T5 fr F ⟨h.1,fun n hn=>by
  simp only [List.mem_cons,List.not_mem_nil,or_false] at hn
  rcases hn with rfl | rfl | rfl
  · exact h.2.1.1
  · exact h.2.1.2.1
  · exact h.2.1.2.2,h.2.2,by simp⟩
theorem nums3_len {a b c:Int} (h:i64b a/\i64b b/\i64b c):(numsT [a,b,c]).length<=66:=by
 have:=numsT_len [a,b,c] fun n hn=>by
  simp only [List.mem_cons,List.not_mem_nil,or_false] at hn
  rcases hn with rfl | rfl | rfl
  · exact h.1
  · exact h.2.1
  · exact h.2.2
 simpa using this
section
variable {o:Oper} {f:Operand->V} {H:Own} {K:V->Own->Prop}
theorem gs_arS {S S':Addr->Prop} {w w':World} {v:Value} (h:R S w v (.gs (.slice none 0 0) [])):R S' w' v (.ar (.slice none 0 0) 0):=by cases h;exact .ar _ _ _ (Nat.le_refl _) (fun _=>rfl)
theorem DOp.allocS_ (hop:o.op = .alloc 97) (h:∀ b,K (.raw (.pointer (some ⟨b,0,none⟩))) (.tb 97 b [.raw (.pointer none), .ar (.slice none 0 0) 0] :: .ba 5 (.slice none 0 0) []::H)):DOp Tryz.prog o f H K :=
 DOp.step fun a w hs hr=>by
  obtain ⟨i,d,hi,_,_,_,_,hz⟩:=ty_info (P:=Tryz.prog) (t:=97) rfl (by rw [ty_97];decide) (by rw [ty_97];decide)
  cases hzz:i.zero with
  | none=>rw [hzz,ty_97] at hz;simp at hz
  | some z =>
   obtain ⟨g1,g2⟩:=hs.add (w':=w) (e1:=.ba 5 (.slice none 0 0) []) rfl rfl rfl (Nat.le_refl _) (fun _ _=>rfl) (fun _ h=>h.elim) fun _=>⟨rfl,rfl,rfl⟩
   obtain ⟨z1,z2⟩:=zero_rel (P:=Tryz.prog) (S:=stable w (.ba 5 (.slice none 0 0) []::H)) (w:=w) hi hzz hz
   have hl:(ty Tryz.prog 97).zero.length=2:=by rw [ty_97];rfl
   obtain ⟨k1,k2⟩:=g1.add (w':=w.alloc (.cells z.cells 97)) (e1:=.tb 97 w.heap.size [.raw (.pointer none), .ar (.slice none 0 0) 0]) rfl rfl rfl (by simp) (fun b hb=>Below.heap_alloc w _ b hb) (fun b h=>Nat.le_of_eq h.symm) fun hst =>
    ⟨z.cells,(0,0),heap_alloc_new w _, .inl rfl,by rw [z1,hl];rfl,fun k hk=>by
      have e0:(ty Tryz.prog 97).zero.getD 0 .any = .raw (.pointer none):=by rw [ty_97];rfl
      have e1:(ty Tryz.prog 97).zero.getD 1 .any = .gs (.slice none 0 0) []:=by rw [ty_97];rfl
      match k,hk with
      | 0,_=>have:=z2 0 (by rw [hl];decide);rw [e0] at this;exact this.mono hst
      | 1,_=>have:=z2 1 (by rw [hl];decide);rw [e1] at this;exact gs_arS this⟩
   refine ⟨.pointer (some ⟨w.heap.size,0,none⟩),_,_,_,?_,⟨k1,g2.trans k2⟩, .raw _,h _⟩
   unfold execOp
   rw [hop]
   simp [Instr.alloc,zeroValue,typeInfo,program,Sem.run,hi,hzz,newVar,newRow]
end
theorem bat0 (b:Nat):BAt 97 b 0 [.raw (.pointer none), .ar (.slice none 0 0) 0] (.slice none 0 0) 0:=⟨⟨false,rfl⟩,rfl,by decide,by unfold liesB;kernel_rfl⟩
attribute [local irreducible] DW SeqD DV DOp DC DVX lay2 selfP liesB numsT Lib.itoa hexK
theorem sv_wtext_dc {p:Prop} (h:p:=by first | exact sv | exact ⟨hB,by omega⟩ | exact ⟨by (simp only [List.length_append,List.length_cons,List.length_nil,Nat.zero_add];exact hB.next _ _),by (simp only [List.length_append,List.length_cons,List.length_nil];omega)⟩ | (show List.length _<=_;omega) | fail):p:=h
theorem wtext_dc (T:TypeId) (bk off:Nat) (cs:List V) (v:Value) (l:List UInt8) (x:List UInt8) (F:Own):(BAt T bk off cs v l.length/\l.length<=10000000/\x.length<=1000000)->DC Tryz.prog 62 [.raw (.pointer (some ⟨bk,off,none⟩)), .str x] ([.tb T bk cs, .ba 5 v l]++F) fun d G=>∃ v' cs',BAt T bk off cs' v' (l++(32::hexK x x.length)).length/\d = .tup []/\G=[.tb T bk cs', .ba 5 v' (l++(32::hexK x x.length))]++F:=by
 intro hA
 obtain ⟨hB,hl,hx⟩:=hA
 refine DC.bodyS (n_:=10) (show Tryz.prog.funcs[62]? = some Tryz.f62 by kernel_rfl) rfl rfl (by rfl) ?_
 simp only [env0,List.cons_append,List.nil_append]
 have kw:=ksIs [0,1]
 have ow:=ownIs []
 have hxl:=hexK_len x x.length
 repeat' (first
  | refine g_ ?_
  | ((with_reducible refine And.intro ?_ ?_);(exact sv_wtext_dc))
  | (refine DW.cond (by rfl) ?_ ?_<;>(first | exact i0_ | (refine ic_ ?_;intro hb)))
  | ((with_reducible refine FVg_cases ?_ ?_)<;>(intro hb;rw [hb];revert hb;(first | exact i0_ | (refine i_ ?_;intro hb))))
  | refine r_ ?_
  | refine k_ ?_
  | (refine p_ (wsp_dc _ _ _ _ _ _ _) ?_ (ha:=by exact sv_wtext_dc);rintro d H1 ⟨w1,rfl,rfl⟩<;>refine s_ ?_)
  | (refine q_ (thex_dc _ _) ?_ (ha:=by exact sv_wtext_dc))
  | (refine p_ (wstr_dc _ _ _ _ _ _ _ _) ?_ (ha:=by exact sv_wtext_dc);rintro d H1 ⟨w2,rfl,rfl⟩<;>refine s_ ?_)
  | refine o_ ?_
  | refine f_ ?_
  | with_reducible intro b)
 all_goals first
 | (refine ⟨_,_,le.rfl_,⟨w2,_,(hB.next w1 (l.length+1)).next w2 _,rfl,rfl⟩,?_⟩;(exact sub_);done)
 | (trace_state;fail)
end
section
def cfM (x y:TRoute):Int:=if rbefore x y=true then -1 else 1
theorem cfM_dec (x y:TRoute):decide (cfM x y<0)=rbefore x y:=by
 unfold cfM
 cases h:rbefore x y<;>simp
theorem cfM_swo:Go.Sort.SWO (fun x y:TRoute=>decide (cfM x y<0)) where
 irrefl x:=by rw [cfM_dec];exact rbefore_irrefl x
 trans x y z h1 h2:=by rw [cfM_dec] at *;exact rbefore_trans x y z h1 h2
 ntrans x y z h1 h2:=by
  rw [cfM_dec] at *
  rcases rbefore_total h1 with h3 | rfl
  · rcases rbefore_total h2 with h4 | rfl
    · have h5:=rbefore_trans z y x h4 h3
      cases h6:rbefore x z with
      | false=>rfl
      | true=>have:=rbefore_trans x z x h6 h5;rw [rbefore_irrefl] at this;cases this
    · exact h1
  · exact h2
def cfC (x y:TCell):Int:=cmpS x.topic y.topic
theorem cfC_dec (x y:TCell):decide (cfC x y<0)=Op.bytesLess x.topic y.topic:=by
 unfold cfC cmpS
 cases h:Op.bytesLess x.topic y.topic<;>simp<;>split<;>simp
theorem bl_total {a b:Str} (h:Op.bytesLess a b=false):Op.bytesLess b a=true\/a=b:=by
 cases h':Op.bytesLess b a with
 | true=>exact .inl rfl
 | false=>exact .inr (bl_tri _ _ h h')
theorem cfC_swo:Go.Sort.SWO (fun x y:TCell=>decide (cfC x y<0)) where
 irrefl x:=by rw [cfC_dec];exact bl_irrefl _
 trans x y z h1 h2:=by rw [cfC_dec] at *;exact bl_trans _ _ _ h1 h2
 ntrans x y z h1 h2:=by
  rw [cfC_dec] at *
  rcases bl_total h1 with h3 | e
  · rcases bl_total h2 with h4 | e
    · have h5:=bl_trans _ _ _ h4 h3
      cases h6:Op.bytesLess x.topic z.topic with
      | false=>rfl
      | true=>have:=bl_trans _ _ _ h6 h5;rw [bl_irrefl] at this;cases this
    · rw [<-e];exact h1
  · rw [e];exact h2
attribute [local irreducible] DW SeqD DV DOp DC DVX DVJ cmpS rbefore
theorem cfM_dc (a1 a2 a3:Int) (f1:Str) (b1 b2 b3:Int) (f2:Str) (F:Own):(True)->DC Tryz.prog 34 [.agg [.int .i64 a1, .int .i64 a2, .int .i64 a3, .str f1], .agg [.int .i64 b1, .int .i64 b2, .int .i64 b3, .str f2]] (([]:Own)++F) fun d G=>d = .int .i64 (cfM ⟨⟨a1,a2,a3⟩,f1⟩ ⟨⟨b1,b2,b3⟩,f2⟩)/\G=[]++F:=by
 intro hA
 refine DC.bodyS (n_:=8) (show Tryz.prog.funcs[34]? = some Tryz.f34 by kernel_rfl) rfl rfl (by rfl) ?_
 simp only [env0,List.cons_append,List.nil_append]
 have kw:=ksIs [0,1,2,3,4,7]
 have ow:=ownIs []
 repeat' (first
  | refine g_ ?_
  | ((with_reducible refine And.intro ?_ ?_);(exact sv))
  | (refine DW.cond (by rfl) ?_ ?_<;>(first | exact i0_ | (refine ic_ ?_;intro hb)))
  | ((with_reducible refine FVg_cases ?_ ?_)<;>(intro hb;rw [hb];revert hb;(first | exact i0_ | (refine i_ ?_;intro hb))))
  | refine r_ ?_
  | refine k_ ?_
  | (refine q_ (prbefore_dc _ _ _ _ _ _ _ _ _) ?_)
  | refine o_ ?_
  | refine f_ ?_
  | with_reducible intro b)
 all_goals first
 | ((have e:cfM ⟨⟨a1,a2,a3⟩,f1⟩ ⟨⟨b1,b2,b3⟩,f2⟩ = -1:=if_pos hb)
    rw [e];(first | exact fin_ | refine finq_ ?_);done)
 | ((have e:cfM ⟨⟨a1,a2,a3⟩,f1⟩ ⟨⟨b1,b2,b3⟩,f2⟩=1:=if_neg (by rw [hb];simp))
    rw [e];(first | exact fin_ | refine finq_ ?_);done)
 | (trace_state;fail)
theorem cfC_dc (a1 a2 a3 a4 a5 a6:Int) (a7 a8:Str) (a9:Int) (a10:Bool) (b1 b2 b3 b4 b5 b6:Int) (b7 b8:Str) (b9:Int) (b10:Bool) (F:Own):(True)->DC Tryz.prog 76 [.agg [.int .i64 a1, .int .i64 a2, .int .i64 a3, .int .i64 a4, .int .i64 a5, .int .i64 a6, .str a7, .sl (a8.map u8), .int .i64 a9, .bool a10], .agg [.int .i64 b1, .int .i64 b2, .int .i64 b3, .int .i64 b4, .int .i64 b5, .int .i64 b6, .str b7, .sl (b8.map u8), .int .i64 b9, .bool b10]] (([]:Own)++F) fun d G=>d = .int .i64 (cmpS a7 b7)/\G=[]++F:=by
 intro hA
 refine DC.bodyS (n_:=10) (show Tryz.prog.funcs[76]? = some Tryz.f76 by kernel_rfl) rfl rfl (by rfl) ?_
 simp only [env0,List.cons_append,List.nil_append]
 have kw:=ksIs [0,1,2,3,4]
 have ow:=ownIs []
 repeat' (first
  | refine g_ ?_
  | ((with_reducible refine And.intro ?_ ?_);(exact sv))
  | (refine DW.cond (by rfl) ?_ ?_<;>(first | exact i0_ | (refine ic_ ?_;intro hb)))
  | ((with_reducible refine FVg_cases ?_ ?_)<;>(intro hb;rw [hb];revert hb;(first | exact i0_ | (refine i_ ?_;intro hb))))
  | refine r_ ?_
  | refine k_ ?_
  | (refine q_ (cmps_dc _ _ _) ?_)
  | refine o_ ?_
  | refine f_ ?_
  | with_reducible intro b)
 (first | exact fin_ | refine finq_ ?_)
 all_goals rfl
theorem sortM_dc (l:List TRoute) (v:Value) (n:Nat) (F:Own):(n=l.length/\l.length<=1000000000)->DC Tryz.prog 33 [.ar v n, .fn (.func 34) [] []] ([.arr 4 v (cells (l.map encRoute))]++F) fun d G=>∃ l':List TRoute,(l'.Perm l/\l'.Pairwise (fun x y=>rbefore y x=false))/\d = .tup []/\G = .arr 4 v (cells (l'.map encRoute))::F:=fun h =>
 (DC.sortF (ok:=fun _=>True) (encV:=encRoute) (cf:=cfM) (g:=34) laySort (fun w=>run_isAgg (P:=Tryz.prog) (t:=68) (w:=w) (by rw [ty_68];decide) (by rw [ty_68];decide)) (fun w=>run_sizeOf (P:=Tryz.prog) (t:=68) (w:=w) (by rw [ty_68];decide) (by rw [ty_68];decide)) (enters_of Tryz.func34 (by kernel_rfl) rfl) (by decide) (fun x _=>⟨_,rfl,rfl,rfl⟩) cfM_swo (by kernel_rfl)
   (fun x y _ _=>(cfM_dc x.dot.node x.dot.epoch x.dot.n x.filter y.dot.node y.dot.epoch y.dot.n y.filter [] trivial).mono fun d G h=>h.1) l v n F ⟨h.1,by omega,fun _ _=>trivial⟩).mono fun d G ⟨h1,l',h2,h3,h4⟩=>⟨l',⟨h2,h3.imp fun {x y} hxy=>by rw [<-cfM_dec];exact decide_eq_false hxy⟩,h1,h4⟩
theorem sortC_dc (l:List TCell) (v:Value) (n:Nat) (F:Own):(n=l.length/\l.length<=1000000000)->DC Tryz.prog 75 [.ar v n, .fn (.func 76) [] []] ([.arr 10 v (cells (l.map encCell))]++F) fun d G=>∃ l':List TCell,(l'.Perm l/\l'.Pairwise (fun x y=>Op.bytesLess y.topic x.topic=false))/\d = .tup []/\G = .arr 10 v (cells (l'.map encCell))::F:=fun h =>
 (DC.sortF (ok:=fun _=>True) (encV:=encCell) (cf:=cfC) (g:=76) laySortC (fun w=>run_isAgg (P:=Tryz.prog) (t:=76) (w:=w) (by rw [ty_76];decide) (by rw [ty_76];decide)) (fun w=>run_sizeOf (P:=Tryz.prog) (t:=76) (w:=w) (by rw [ty_76];decide) (by rw [ty_76];decide)) (enters_of Tryz.func76 (by kernel_rfl) rfl) (by decide) (fun x _=>⟨_,rfl,rfl,rfl⟩) cfC_swo (by kernel_rfl)
   (fun x y _ _=>(cfC_dc x.dot.node x.dot.epoch x.dot.n x.stamp.l x.stamp.c x.stamp.node x.topic x.payload x.qos x.gone y.dot.node y.dot.epoch y.dot.n y.stamp.l y.stamp.c y.stamp.node y.topic y.payload y.qos y.gone [] trivial).mono fun d G h=>h.1) l v n F ⟨h.1,by omega,fun _ _=>trivial⟩).mono fun d G ⟨h1,l',h2,h3,h4⟩=>⟨l',⟨h2,h3.imp fun {x y} hxy=>by rw [<-cfC_dec];exact decide_eq_false hxy⟩,h1,h4⟩
end
section
abbrev knM (m:Int):Ent:=.know 0 [.int .i64 m]
def levs (l:List UInt8):List (List UInt8):=(Lib.splitB (bs [47]) 0 (Lib.countB (bs l) (bs [47])) (bs l)).map (·.data.toList)
theorem bs_back (b:ByteArray):bs b.data.toList=b:=by cases b;simp [bs]
theorem split_one:∀ (n:Nat) (cs:List V),n=cs.length->splitV 1 false n cs=cs
 | 0,[],_=>rfl
 | n+1,c::cs,h=>by
  simp only [splitV,Bool.false_eq_true,if_false,List.getD_cons_zero,List.drop_succ_cons,List.drop_zero,split_one n cs (by simpa using h)]
theorem levs_len (l:List UInt8):(levs l).length=Lib.countB (bs l) (bs [47])+1:=by
 unfold levs
 rw [List.length_map,Lib.splitB_all (bs [47]) (by decide) 0 _ (bs l) rfl]
theorem split_dc (m:Int) (l:List UInt8) (F:Own):l.length<=1000000000->DC Tryz.prog 139 [.str l, .str [47]] ([knM m]++F) fun d G=>d = .sl ((levs l).map V.str)/\G=[knM m]++F:=fun hl=>by
 refine ⟨by kernel_rfl,fun xs w hs hsz hr=>?_⟩
 have h0:=hr 0 (by simp)
 have h1:=hr 1 (by simp)
 obtain ⟨x0,x1,rfl⟩:=two_of hsz
 have e0:x0 = .string (bs l):=by
  have h0:R (stable w ([knM m]++F)) w x0 (.str l):=h0
  cases h0;rfl
 have e1:x1 = .string (bs [47]):=by
  have h1:R (stable w ([knM m]++F)) w x1 (.str [47]):=h1
  cases h1;rfl
 subst e0;subst e1
 have hh:=hs.holds (knM m) (List.mem_cons_self ..)
 obtain ⟨k1,k2⟩:=hh 0 (by simp)
 have k2:R (stable w ([knM m]++F)) w (cellAt w ⟨0,0,none⟩) (.int .i64 m):=k2
 have hm:w.cell? ⟨0,0,none⟩=some (.int .i64 m):=by
  have k3:=k1.1
  unfold cellAt at k2
  cases hc:w.cell? ⟨0,0,none⟩ with
  | none=>rw [hc] at k3;cases k3
  | some v=>rw [hc] at k2;cases k2;rfl
 have c:=Any.strings_Split laySplit (by kernel_rfl) (bs l) (bs [47]) m w (by rw [bs_size];omega) hm (by decide)
 refine c.mono ?_
 rintro e w' ⟨rfl,rfl⟩
 have hz:((levs l).map V.str).length=(Lib.countB (bs l) (bs [47])+1) * 1:=by rw [List.length_map,levs_len,Nat.mul_one]
 have rr:=row_rel (w:=w) hs ((Lib.splitB (bs [47]) 0 (Lib.countB (bs l) (bs [47])) (bs l)).map Value.string).toArray (laySplit_ren.t 9) ((levs l).map V.str) (Lib.countB (bs l) (bs [47])+1) 1 false (by decide) (fun _=>⟨rfl,by simp [V.flat]⟩) (by simp [levs]) hz (fun k hk=>by
  have hk':k<(Lib.splitB (bs [47]) 0 (Lib.countB (bs l) (bs [47])) (bs l)).length:=by simpa [levs] using hk
  have e1:(((Lib.splitB (bs [47]) 0 (Lib.countB (bs l) (bs [47])) (bs l)).map Value.string).toArray).getD k undef=Value.string (bs ((Lib.splitB (bs [47]) 0 (Lib.countB (bs l) (bs [47])) (bs l))[k]).data.toList):=by
   rw [bs_back];simp [Array.getD_eq_getD_getElem?,hk']
  have e2:((levs l).map V.str).getD k .any = .str ((Lib.splitB (bs [47]) 0 (Lib.countB (bs l) (bs [47])) (bs l))[k]).data.toList:=by
   simp [levs,List.getD_eq_getElem?_getD,hk']
  rw [e1,e2];exact .str _)
 rw [split_one _ _ (by rw [hz,Nat.mul_one])] at rr
 exact ⟨_,_,_,rfl,(Sim.new hs _).1,(Sim.new hs _).2,rr,rfl,rfl⟩
attribute [local irreducible] DW SeqD DV DOp DC DVX
theorem levelsg_dc (m:Int) (l:List UInt8) (F:Own):(l.length<=1000000000)->DC Tryz.prog 94 [.str l] ([knM m]++F) fun d G=>d = .sl ((levs l).map V.str)/\G=[knM m]++F:=by
 intro hA
 have hl:=hA
 refine DC.bodyS (n_:=5) (show Tryz.prog.funcs[94]? = some Tryz.f94 by kernel_rfl) rfl rfl (by rfl) ?_
 simp only [env0,List.cons_append,List.nil_append]
 have kw:=ksIs [0,2]
 have ow:=ownIs []
 repeat' (first
  | refine g_ ?_
  | ((with_reducible refine And.intro ?_ ?_);(exact sv))
  | (refine DW.cond (by rfl) ?_ ?_<;>(first | exact i0_ | (refine ic_ ?_;intro hb)))
  | ((with_reducible refine FVg_cases ?_ ?_)<;>(intro hb;rw [hb];revert hb;(first | exact i0_ | (refine i_ ?_;intro hb))))
  | refine r_ ?_
  | refine k_ ?_
  | (refine q_ (split_dc _ _ _) ?_)
  | refine o_ ?_
  | refine f_ ?_
  | with_reducible intro b)
 (first | exact fin_ | refine finq_ ?_)
 all_goals rfl
section
attribute [local push_cast 2000] u8
end
end
section
attribute [local irreducible] DW SeqD DV DOp DC DVX
def wildT (l:List UInt8):Bool:=l.any fun c=>c==43||c==35
theorem wildg_dc (r:Int) (F:Own):(True)->DC Tryz.prog 96 [.int .i32 r] (([]:Own)++F) fun d G=>d = .bool (r==43||r==35)/\G=[]++F:=by
 intro hA
 refine DC.bodyS (n_:=9) (show Tryz.prog.funcs[96]? = some Tryz.f96 by kernel_rfl) rfl rfl (by rfl) ?_
 simp only [env0,List.cons_append,List.nil_append]
 have kw:=ksIs [0,2]
 have ow:=ownIs []
 repeat' (first
  | refine g_ ?_
  | ((with_reducible refine And.intro ?_ ?_);(exact sv))
  | (refine DW.cond (by rfl) ?_ ?_<;>(first | exact i0_ | (refine ic_ ?_;intro hb)))
  | ((with_reducible refine FVg_cases ?_ ?_)<;>(intro hb;rw [hb];revert hb;(first | exact i0_ | (refine i_ ?_;intro hb))))
  | refine r_ ?_
  | refine k_ ?_
  | refine o_ ?_
  | refine f_ ?_
  | with_reducible intro b)
 all_goals
  refine ⟨_,_,le.of_eq ?_,⟨rfl,rfl⟩,SubP.refl⟩
  simp_all
end
section
attribute [local irreducible] DW SeqD DV DOp DC DVX
def okAt (ls:List (List UInt8)) (i:Nat):Bool:=ls.getD i default==[43]||(ls.getD i default==[35]&&decide ((i:Int)=(ls.length:Int) - 1)) || !wildT (ls.getD i default)
def okF (ls:List (List UInt8)):Bool:=(List.range ls.length).all (okAt ls)
theorem okF_t {ls:List (List UInt8)} (h:∀ i,i<ls.length->okAt ls i=true):okF ls=true:=by
 unfold okF;rw [List.all_eq_true];intro i hi;exact h i (List.mem_range.1 hi)
theorem okF_f {ls:List (List UInt8)} {k:Nat} (hk:k<ls.length) (h:okAt ls k=false):okF ls=false:=by
 cases e:okF ls with
 | false=>rfl
 | true=>unfold okF at e;rw [List.all_eq_true] at e;rw [e k (List.mem_range.2 hk)] at h;cases h
theorem ok_s {ls:List (List UInt8)} {k:Nat} (h:∀ i,i<k->okAt ls i=true) (hk:okAt ls k=true):∀ i,i<k+1->okAt ls i=true:=fun i hi=>by
 rcases Nat.lt_or_eq_of_le (Nat.le_of_lt_succ hi) with h1 | rfl
 · exact h i h1
 · exact hk
end
section
attribute [local irreducible] DW SeqD DV DOp DC DVX
end
section
theorem mem_snoc {α:Type} {l:List α} {a x:α}:x∈l++[a]↔x∈l\/x=a:=by simp
theorem pair_iff {n e:Int}:pairB n e=true↔0<=n/\n<16/\1<=e:=by simp [pairB,and_assoc]
theorem has_next {s:List TDot} (h:rightB s=true) {n e:Int} (hp:pairB n e=true) (x:TDot):hasB (addM s (nextDot s n e)) x=true↔hasB s x=true\/x=nextDot s n e:=by
 have h0:=top_nonneg h n e
 rw [has_iff,has_iff,add_top h]
 have h1:oneB (nextDot s n e)=true:=next_one h hp
 obtain ⟨a,b,c⟩:=x
 simp only [TDot.mk.injEq]
 have en:(nextDot s n e).node=n:=rfl
 have ee:(nextDot s n e).epoch=e:=rfl
 have ek:(nextDot s n e).n=topM s n e+1:=rfl
 by_cases hc:a=n/\b=e
 · obtain ⟨rfl,rfl⟩:=hc
   rw [if_pos ⟨h1,rfl,rfl⟩,ek]
   constructor
   · rintro ⟨q1,q2⟩
     by_cases q:c<=topM s a b
     · exact .inl ⟨q1,q⟩
     · right
       show (⟨a,b,c⟩:TDot)=⟨a,b,topM s a b+1⟩
       rw [show c=topM s a b+1 by omega]
   · rintro (⟨q1,q2⟩ | q)
     · omega
     · have q':c=topM s a b+1:=congrArg TDot.n q
       omega
 · rw [if_neg (fun x=>hc ⟨x.2.1,x.2.2⟩)]
   constructor
   · exact .inl
   · rintro (q | q)
     · exact q
     · exact absurd ⟨congrArg TDot.node q,congrArg TDot.epoch q⟩ hc
section
variable {G:List TG} {g:TG}
theorem Hist.snoc (hG:Hist G) (hn:∀ h∈G,h.dot≠g.dot) (ho:oneB g.dot=true) (ha:∀ f,g.act = .add f->filterB f=true) (hp:∀ c,g.act = .put c->c.dot=g.dot/\cellB c=true):Hist (G++[g]) where
 one x hx y hy h:=by
  rcases mem_snoc.1 hx with hx' | ex<;>rcases mem_snoc.1 hy with hy' | ey
  · exact hG.one x hx' y hy' h
  · exact absurd (ey▸h) (hn x hx')
  · exact absurd (ex▸h.symm) (hn y hy')
  · rw [ex,ey]
 ok x hx:=by
  rcases mem_snoc.1 hx with hx | rfl
  · exact hG.ok x hx
  · exact ho
 add x hx:=by
  rcases mem_snoc.1 hx with hx | rfl
  · exact hG.add x hx
  · exact ha
 put x hx:=by
  rcases mem_snoc.1 hx with hx | rfl
  · exact hG.put x hx
  · exact hp
theorem Can.grow {t:TTable} (h:Can G t) (hn:hasB t.seen g.dot=false) (hp:∀ c,g.act = .put c->c.dot=g.dot):Can (G++[g]) t where
 tr:=h.tr
 known d hd:=by
  obtain ⟨x,hx,e⟩:=h.known d hd
  exact ⟨x,mem_snoc.2 (.inl hx),e⟩
 ro r:=by
  rw [h.ro]
  constructor
  · rintro ⟨⟨x,hx,x1⟩,l2,l3,l4⟩
    refine ⟨⟨x,mem_snoc.2 (.inl hx),x1⟩,l2,l3,fun y hy=>?_⟩
    rcases mem_snoc.1 hy with hy | rfl
    · exact l4 y hy
    · exact fun _ _=>hn
  · rintro ⟨⟨x,hx,x1,x2⟩,l2,l3,l4⟩
    rcases mem_snoc.1 hx with hx | rfl
    · exact ⟨⟨x,hx,x1,x2⟩,l2,l3,fun y hy=>l4 y (mem_snoc.2 (.inl hy))⟩
    · rw [<-x1,hn] at l2;cases l2
 ce c:=by
  rw [h.ce]
  constructor
  · rintro ⟨⟨x,hx,x1⟩,l2,l3⟩
    refine ⟨⟨x,mem_snoc.2 (.inl hx),x1⟩,l2,fun y hy z z1 z2 z3=>?_⟩
    rcases mem_snoc.1 hy with hy | rfl
    · exact l3 y hy z z1 z2 z3
    · rw [hp z z1,hn] at z3;cases z3
  · rintro ⟨⟨x,hx,x1,x2⟩,l2,l3⟩
    rcases mem_snoc.1 hx with hx | rfl
    · exact ⟨⟨x,hx,x1,x2⟩,l2,fun y hy=>l3 y (mem_snoc.2 (.inl hy))⟩
    · rw [<-x1,hn] at l2;cases l2
variable {t:TTable} {n e:Int}
theorem live_old (h:Can G t) (hp:pairB n e=true) (hn:∀ k∈G,k.dot≠nextDot t.seen n e) (hd:g.dot=nextDot t.seen n e) {r:TRoute} (hr:r.dot≠nextDot t.seen n e) (hg:onG g r->False) :
  Live (G++[g]) (addM t.seen (nextDot t.seen n e)) t.fences r↔Live G t.seen t.fences r:=by
 have hs:=fun x=>has_next h.tr.seen hp x
 constructor
 · rintro ⟨⟨x,hx,x1,x2⟩,l2,l3,l4⟩
   refine ⟨?_,((hs _).1 l2).resolve_right hr,l3,fun y hy y1 y2=>?_⟩
   · rcases mem_snoc.1 hx with hx | rfl
     · exact ⟨x,hx,x1,x2⟩
     · exact absurd (x1.symm.trans hd) hr
   · have:=l4 y (mem_snoc.2 (.inl hy)) y1 y2
     rw [<-Bool.not_eq_true] at this ⊢
     exact fun hh=>this ((hs _).2 (.inl hh))
 · rintro ⟨⟨x,hx,x1⟩,l2,l3,l4⟩
   refine ⟨⟨x,mem_snoc.2 (.inl hx),x1⟩,(hs _).2 (.inl l2),l3,fun y hy y1 y2=>?_⟩
   rcases mem_snoc.1 hy with hy | rfl
   · have:=l4 y hy y1 y2
     rw [<-Bool.not_eq_true] at this ⊢
     exact fun hh=>this (((hs _).1 hh).resolve_right (hn y hy))
   · exact (hg y1).elim
theorem new_old (hG:Hist G) (h:Can G t) (hp:pairB n e=true) (hn:∀ k∈G,k.dot≠nextDot t.seen n e) (hd:g.dot=nextDot t.seen n e) {c:TCell} (hr:c.dot≠nextDot t.seen n e) (hg:∀ x,g.act = .put x->x.topic=c.topic->newerM x c=false) :
  Newest (G++[g]) (addM t.seen (nextDot t.seen n e)) c↔Newest G t.seen c:=by
 have hs:=fun x=>has_next h.tr.seen hp x
 constructor
 · rintro ⟨⟨x,hx,x1,x2⟩,l2,l3⟩
   refine ⟨?_,((hs _).1 l2).resolve_right hr,fun y hy z z1 z2 z3=>l3 y (mem_snoc.2 (.inl hy)) z z1 z2 ((hs _).2 (.inl z3))⟩
   rcases mem_snoc.1 hx with hx | rfl
   · exact ⟨x,hx,x1,x2⟩
   · exact absurd (x1.symm.trans hd) hr
 · rintro ⟨⟨x,hx,x1⟩,l2,l3⟩
   refine ⟨⟨x,mem_snoc.2 (.inl hx),x1⟩,(hs _).2 (.inl l2),fun y hy z z1 z2 z3=>?_⟩
   rcases mem_snoc.1 hy with hy | rfl
   · refine l3 y hy z z1 z2 (((hs _).1 z3).resolve_right ?_)
     rw [(hG.put y hy z z1).1];exact hn y hy
   · exact hg z z1 z2
theorem known_next (h:Can G t) (hp:pairB n e=true) (hd:g.dot=nextDot t.seen n e):∀ d,hasB (addM t.seen (nextDot t.seen n e)) d=true->∃ k∈G++[g],k.dot=d:=fun d hd'=>by
 rcases (has_next h.tr.seen hp d).1 hd' with h' | rfl
 · obtain ⟨x,hx,e⟩:=h.known d h'
   exact ⟨x,mem_snoc.2 (.inl hx),e⟩
 · exact ⟨g,mem_snoc.2 (.inr rfl),hd⟩
structure Went (G:List TG) (t t':TTable) (d:TDot) (L:List TG):Prop where
 hist:Hist (G++L)
 can:Can (G++L) t'
 new:∀ g∈L,g.dot=d/\hasB t'.seen g.dot=true
 one:L=[]\/∃ g,L=[g]
 mono:∀ x,hasB t.seen x=true->hasB t'.seen x=true
theorem Went.none (hG:Hist G) {t':TTable} {d:TDot} (h:Can G t') (hm:∀ x,hasB t.seen x=true->hasB t'.seen x=true):Went G t t' d [] :=
 ⟨by rw [List.append_nil];exact hG,by rw [List.append_nil];exact h,(fun g hg=>nomatch hg), .inl rfl,hm⟩
theorem Went.other {t' u:TTable} {d:TDot} {L:List TG} (h:Went G t t' d L) (hu:Can G u) (hn:∀ k∈G,k.dot≠d):Can (G++L) u:=by
 rcases h.one with rfl | ⟨g,rfl⟩
 · rw [List.append_nil];exact hu
 · have e:=(h.new g (List.mem_singleton.2 rfl)).1
   refine hu.grow ?_ fun c hc=>(h.hist.put g (mem_snoc.2 (.inr rfl)) c hc).1
   rw [<-Bool.not_eq_true]
   intro hh
   obtain ⟨k,hk,k1⟩:=hu.known _ hh
   exact hn k hk (k1.trans e)
theorem went_add (hG:Hist G) (h:Can G t) (hn:∀ k∈G,k.dot≠nextDot t.seen n e) (f:Str):∃ L,Went G t (routeAddM t n e f) (nextDot t.seen n e) L:=by
 by_cases hc:filterB f=true/\pairB n e=true/\fencedL t.fences n e=false
 · have ht:=h.tr.add n e f
   unfold routeAddM at ht ⊢
   rw [if_pos hc] at ht ⊢
   obtain ⟨hf,hp,hfe⟩:=hc
   have h1:=next_one h.tr.seen hp
   have hs:=fun x=>has_next h.tr.seen hp x
   have hH:Hist (G++[(⟨nextDot t.seen n e, .add f⟩:TG)]):=hG.snoc hn h1 (fun x hx=>by injection hx with hx;exact hx▸hf) (fun c hc=>nomatch hc)
   refine ⟨[⟨nextDot t.seen n e, .add f⟩],hH,⟨ht,known_next h hp rfl,fun r=>?_,fun c=>?_⟩,fun g hg=>?_, .inr ⟨_,rfl⟩,fun x hx=>(hs x).2 (.inl hx)⟩
   · show r∈insR _ _↔_
     rw [mem_insR,mem_without]
     by_cases hr:r.dot=nextDot t.seen n e
     · constructor
       · rintro (rfl | ⟨h2,_⟩)
         · refine ⟨⟨_,mem_snoc.2 (.inr rfl),rfl,rfl⟩,has_self h.tr.seen h1,hfe,fun y hy y1 y2=>?_⟩
           rw [<-Bool.not_eq_true]
           intro hh
           rcases (hs _).1 hh with hh | hh
           · rw [has_iff] at hh
             have a1:y.dot.node=n:=y1.1
             have a2:y.dot.epoch=e:=y1.2.1
             rw [a1,a2] at hh
             have a3:topM t.seen n e+1<y.dot.n:=y2
             omega
           · have a3:topM t.seen n e+1<y.dot.n:=y2
             rw [hh] at a3
             have a4:(nextDot t.seen n e).n=topM t.seen n e+1:=rfl
             omega
         · exact absurd hr (next_fresh (h.tr.rok r h2).2.1)
       · rintro ⟨⟨x,hx,x1,x2⟩,_⟩
         left
         rcases mem_snoc.1 hx with hx | rfl
         · exact absurd (x1.trans hr) (hn x hx)
         · injection x2 with x2
           obtain ⟨rd,rf⟩:=r
           simp only at hr x2
           rw [hr,x2]
     · by_cases ho:r.dot.node=n/\r.dot.epoch=e/\r.filter=f
       · constructor
         · rintro (rfl | ⟨_,h3⟩)
           · exact absurd rfl hr
           · exact absurd ho h3
         · rintro ⟨_,l2,_,l4⟩
           exfalso
           have hsr:=((hs _).1 l2).resolve_right hr
           rw [has_iff,ho.1,ho.2.1] at hsr
           have:=l4 ⟨nextDot t.seen n e, .add f⟩ (mem_snoc.2 (.inr rfl)) ⟨ho.1.symm,ho.2.1.symm, .inl (by rw [ho.2.2])⟩ (by show r.dot.n<topM t.seen n e+1;omega)
           rw [show hasB (addM t.seen (nextDot t.seen n e)) (nextDot t.seen n e)=true from has_self h.tr.seen h1] at this
           cases this
       · rw [live_old h hp hn rfl hr fun hg=>?_,<-h.ro]
         · constructor
           · rintro (rfl | ⟨h2,_⟩)
             · exact absurd rfl hr
             · exact h2
           · exact fun h2=>.inr ⟨h2,ho⟩
         · rcases hg.2.2 with q | q
           · injection q with q;exact ho ⟨hg.1.symm,hg.2.1.symm,q.symm⟩
           · cases q
   · show c∈t.cells↔_
     by_cases hr:c.dot=nextDot t.seen n e
     · constructor
       · intro h2;exact absurd hr (next_fresh (h.tr.cok c h2).2)
       · rintro ⟨⟨x,hx,x1,x2⟩,_⟩
         rcases mem_snoc.1 hx with hx | rfl
         · exact absurd (x1.trans hr) (hn x hx)
         · cases x2
     · rw [new_old hG h hp hn rfl hr (fun x hx _=>by cases hx),h.ce]
   · rw [List.mem_singleton] at hg
     subst hg
     exact ⟨rfl,has_self h.tr.seen h1⟩
 · have e0:routeAddM t n e f=t:=by unfold routeAddM;rw [if_neg hc]
   rw [e0]
   exact ⟨[],Went.none hG h fun _ hx=>hx⟩
theorem went_drop (hG:Hist G) (h:Can G t) (hp:pairB n e=true) (hn:∀ k∈G,k.dot≠nextDot t.seen n e) (f:Str):∃ L,Went G t (routeDropM t n e f) (nextDot t.seen n e) L:=by
 by_cases hc:(withoutR t.routes n e f).length<t.routes.length
 · have ht:=h.tr.drop n e f
   unfold routeDropM at ht ⊢
   rw [if_pos hc] at ht ⊢
   have h1:=next_one h.tr.seen hp
   have hs:=fun x=>has_next h.tr.seen hp x
   have hH:Hist (G++[(⟨nextDot t.seen n e, .drop f⟩:TG)]):=hG.snoc hn h1 (fun x hx=>nomatch hx) (fun c hc=>nomatch hc)
   refine ⟨[⟨nextDot t.seen n e, .drop f⟩],hH,⟨ht,known_next h hp rfl,fun r=>?_,fun c=>?_⟩,fun g hg=>?_, .inr ⟨_,rfl⟩,fun x hx=>(hs x).2 (.inl hx)⟩
   · show r∈withoutR _ _ _ _↔_
     rw [mem_without]
     by_cases hr:r.dot=nextDot t.seen n e
     · constructor
       · rintro ⟨h2,_⟩
         exact absurd hr (next_fresh (h.tr.rok r h2).2.1)
       · rintro ⟨⟨x,hx,x1,x2⟩,_⟩
         rcases mem_snoc.1 hx with hx | rfl
         · exact absurd (x1.trans hr) (hn x hx)
         · cases x2
     · by_cases ho:r.dot.node=n/\r.dot.epoch=e/\r.filter=f
       · constructor
         · rintro ⟨_,h3⟩
           exact absurd ho h3
         · rintro ⟨_,l2,_,l4⟩
           exfalso
           have hsr:=((hs _).1 l2).resolve_right hr
           rw [has_iff,ho.1,ho.2.1] at hsr
           have:=l4 ⟨nextDot t.seen n e, .drop f⟩ (mem_snoc.2 (.inr rfl)) ⟨ho.1.symm,ho.2.1.symm, .inr (by rw [ho.2.2])⟩ (by show r.dot.n<topM t.seen n e+1;omega)
           rw [show hasB (addM t.seen (nextDot t.seen n e)) (nextDot t.seen n e)=true from has_self h.tr.seen h1] at this
           cases this
       · rw [live_old h hp hn rfl hr fun hg=>?_,<-h.ro]
         · exact ⟨fun h2=>h2.1,fun h2=>⟨h2,ho⟩⟩
         · rcases hg.2.2 with q | q
           · cases q
           · injection q with q;exact ho ⟨hg.1.symm,hg.2.1.symm,q.symm⟩
   · show c∈t.cells↔_
     by_cases hr:c.dot=nextDot t.seen n e
     · constructor
       · intro h2;exact absurd hr (next_fresh (h.tr.cok c h2).2)
       · rintro ⟨⟨x,hx,x1,x2⟩,_⟩
         rcases mem_snoc.1 hx with hx | rfl
         · exact absurd (x1.trans hr) (hn x hx)
         · cases x2
     · rw [new_old hG h hp hn rfl hr (fun x hx _=>by cases hx),h.ce]
   · rw [List.mem_singleton] at hg
     subst hg
     exact ⟨rfl,has_self h.tr.seen h1⟩
 · have e0:routeDropM t n e f=t:=by unfold routeDropM;rw [if_neg hc]
   rw [e0]
   exact ⟨[],Went.none hG h fun _ hx=>hx⟩
theorem cellIn_mem {ce:List TCell} (hs:ce.Pairwise (fun a b=>Op.bytesLess a.topic b.topic=true)) (c:TCell) :
  (∃ o∈ce,o.topic=c.topic/\newerM o c=true/\cellInM ce c=ce)\/((∀ o∈ce,o.topic=c.topic->newerM o c=false)/\∀ x,x∈cellInM ce c↔x=c\/(x∈ce/\x.topic≠c.topic)):=by
 by_cases hno:∀ x∈ce,x.topic≠c.topic
 · right
   refine ⟨fun o ho h=>absurd h (hno o ho),fun x=>?_⟩
   rw [(cellIn_fresh hs hno).2]
   constructor
   · rintro (h | h)
     · exact .inl h
     · exact .inr ⟨h,hno x h⟩
   · rintro (h | h)
     · exact .inl h
     · exact .inr h.1
 · obtain ⟨o,ho,hoc⟩:∃ o∈ce,o.topic=c.topic:=by
    by_cases h:∃ o∈ce,o.topic=c.topic
    · exact h
    · exact absurd (fun x hx he=>h ⟨x,hx,he⟩) hno
   obtain ⟨h1,h2,h3,h4⟩:=firstK_le (fun i=>!Op.bytesLess (ce.getD i default).topic c.topic) ce.length 0
   obtain ⟨p,hp⟩:∃ p,p=placeC ce c.topic:=⟨_,rfl⟩
   have hp':firstK (fun i=>!Op.bytesLess (ce.getD i default).topic c.topic) ce.length 0=p:=hp.symm
   rw [hp'] at h1 h2 h3 h4
   obtain ⟨j,hj,rfl⟩:=mem_getD ho
   have hjp:p<=j:=by
    rcases Nat.lt_or_ge j p with h | h
    · have:=h3 j (Nat.zero_le _) h
      rw [hoc,bl_irrefl] at this;cases this
    · exact h
   have hpj:p=j:=by
    rcases Nat.eq_or_lt_of_le hjp with h | h
    · exact h
    · have a:=pw_at hs h hj
      have b:=h4 (by omega)
      rw [hoc] at a
      simp only [Bool.not_eq_true'] at b
      rw [a] at b;cases b
   subst hpj
   by_cases hnw:newerM (ce.getD p default) c=true
   · left
     exact ⟨_,ho,hoc,hnw,by rw [cellInM,<-hp,if_pos ⟨hj,hoc⟩,if_pos hnw]⟩
   · right
     have hnw':newerM (ce.getD p default) c=false:=by simpa using hnw
     refine ⟨fun x hx he=>?_,fun x=>?_⟩
     · rw [topics_one hs ho hx (he.trans hoc.symm)];exact hnw'
     · rcases cellIn_facts hs c with he | ⟨ce0,c1,c2,c3,c4,c5⟩
       · have hin:c∈ce:=by
          rw [<-he,cellInM,<-hp,if_pos ⟨hj,hoc⟩,if_neg hnw];simp
         rw [he]
         constructor
         · intro hx
           by_cases ht:x.topic=c.topic
           · exact .inl (topics_one hs hin hx ht)
           · exact .inr ⟨hx,ht⟩
         · rintro (rfl | h)
           · exact hin
           · exact h.1
       · rw [c2.mem_iff,List.mem_cons]
         constructor
         · rintro (h | h)
           · exact .inl h
           · exact .inr ⟨c1.subset h,c5 x h⟩
         · rintro (h | ⟨h,h'⟩)
           · exact .inl h
           · exact .inr (c4 x h h')
theorem went_put (hG:Hist G) (h:Can G t) (hn:∀ k∈G,k.dot≠nextDot t.seen n e) (s:TStamp) (m1 m2:Str) (m3:Int):∃ L,Went G t (cellPutM t n e s m1 m2 m3) (nextDot t.seen n e) L:=by
 by_cases hc:putOk n e s.l s.c s.node m1 m3=true
 · have ht:=h.tr.put n e s m1 m2 m3
   unfold cellPutM at ht ⊢
   rw [if_pos hc] at ht ⊢
   obtain ⟨hcb,hp⟩:=putC_ok (m2:=m2) hc (nextDot t.seen n e)
   have h1:=next_one h.tr.seen hp
   have hs:=fun x=>has_next h.tr.seen hp x
   obtain ⟨c0,hc0⟩:∃ c0,c0=putC (nextDot t.seen n e) s.l s.c s.node m1 m2 m3:=⟨_,rfl⟩
   rw [<-hc0] at ht hcb ⊢
   have hcd:c0.dot=nextDot t.seen n e:=by rw [hc0];rfl
   have hH:Hist (G++[(⟨nextDot t.seen n e, .put c0⟩:TG)]):=hG.snoc hn h1 (fun x hx=>nomatch hx) (fun c hc=>by injection hc with hc;subst hc;exact ⟨hcd,hcb⟩)
   have isc0:∀ c:TCell,c.dot=nextDot t.seen n e->(∃ g∈G++[(⟨nextDot t.seen n e, .put c0⟩:TG)],g.dot=c.dot/\g.act = .put c)->c=c0:=by
    rintro c hr ⟨x,hx,x1,x2⟩
    rcases mem_snoc.1 hx with hx | rfl
    · exact absurd (x1.trans hr) (hn x hx)
    · injection x2 with x2;exact x2.symm
   refine ⟨[⟨nextDot t.seen n e, .put c0⟩],hH,⟨ht,known_next h hp rfl,fun r=>?_,fun c=>?_⟩,fun g hg=>?_, .inr ⟨_,rfl⟩,fun x hx=>(hs x).2 (.inl hx)⟩
   · show r∈t.routes↔_
     by_cases hr:r.dot=nextDot t.seen n e
     · constructor
       · intro h2;exact absurd hr (next_fresh (h.tr.rok r h2).2.1)
       · rintro ⟨⟨x,hx,x1,x2⟩,_⟩
         rcases mem_snoc.1 hx with hx | rfl
         · exact absurd (x1.trans hr) (hn x hx)
         · cases x2
     · rw [live_old h hp hn rfl hr (fun hg=>by rcases hg.2.2 with q | q<;>cases q),h.ro]
   · show c∈cellInM t.cells c0↔_
     rcases cellIn_mem h.tr.csort c0 with ⟨o,ho,o1,o2,o3⟩ | ⟨o1,o2⟩
     · rw [o3]
       obtain ⟨⟨k,hk,k1,k2⟩,os,_⟩:=(h.ce o).1 ho
       by_cases hr:c.dot=nextDot t.seen n e
       · constructor
         · intro h2;exact absurd hr (next_fresh (h.tr.cok c h2).2)
         · rintro ⟨l1,_,l3⟩
           have e1:=isc0 c hr l1
           subst e1
           rw [l3 k (mem_snoc.2 (.inl hk)) o k2 o1 ((hs _).2 (.inl os))] at o2;cases o2
       · constructor
         · intro h2
           refine (new_old hG h hp hn rfl hr fun x hx hxt=>?_).2 ((h.ce c).1 h2)
           injection hx with hx
           subst hx
           rw [topics_one h.tr.csort ho h2 (hxt.symm.trans o1.symm)]
           exact newer_asy o2
         · rintro ⟨l1,l2,l3⟩
           refine (h.ce c).2 ?_
           refine ⟨?_,((hs _).1 l2).resolve_right hr,fun y hy z z1 z2 z3=>l3 y (mem_snoc.2 (.inl hy)) z z1 z2 ((hs _).2 (.inl z3))⟩
           obtain ⟨x,hx,x1,x2⟩:=l1
           rcases mem_snoc.1 hx with hx | rfl
           · exact ⟨x,hx,x1,x2⟩
           · exact absurd x1.symm hr
     · rw [o2]
       by_cases hr:c.dot=nextDot t.seen n e
       · constructor
         · rintro (rfl | ⟨h2,_⟩)
           · refine ⟨⟨_,mem_snoc.2 (.inr rfl),hcd.symm,rfl⟩,by rw [hcd];exact has_self h.tr.seen h1,fun y hy z z1 z2 z3=>?_⟩
             rcases mem_snoc.1 hy with hy | rfl
             · have hz:hasB t.seen z.dot=true:=((hs _).1 z3).resolve_right (by rw [(hG.put y hy z z1).1];exact hn y hy)
               rw [<-Bool.not_eq_true]
               intro hnw
               obtain ⟨w,hw,⟨w1,w2,w3⟩,wm⟩:=newest_of (fun w=>(∃ k∈G,k.dot=w.dot/\k.act = .put w)/\w.topic=c.topic/\hasB t.seen w.dot=true) (G.filterMap fun k=>match k.act with | .put w=>some w | _=>none)
                ⟨z,List.mem_filterMap.2 ⟨y,hy,by rw [z1]⟩,⟨y,hy,(hG.put y hy z z1).1.symm,z1⟩,z2,hz⟩
               have hwc:w∈t.cells:=(h.ce w).2 ⟨w1,w3,fun k hk v v1 v2 v3=>wm v (List.mem_filterMap.2 ⟨k,hk,by rw [v1]⟩) ⟨⟨k,hk,(hG.put k hk v v1).1.symm,v1⟩,v2.trans w2,v3⟩⟩
               rcases newer_nt hnw w with q | q
               · rw [wm z (List.mem_filterMap.2 ⟨y,hy,by rw [z1]⟩) ⟨⟨y,hy,(hG.put y hy z z1).1.symm,z1⟩,z2,hz⟩] at q;cases q
               · rw [o1 w hwc w2] at q;cases q
             · injection z1 with z1
               subst z1
               exact newer_irr _
           · exact absurd hr (next_fresh (h.tr.cok c h2).2)
         · rintro ⟨l1,_⟩
           exact .inl (isc0 c hr l1)
       · constructor
         · rintro (rfl | ⟨h2,h3⟩)
           · exact absurd hcd hr
           · refine (new_old hG h hp hn rfl hr fun x hx hxt=>?_).2 ((h.ce c).1 h2)
             injection hx with hx
             subst hx
             exact absurd hxt.symm h3
         · rintro ⟨l1,l2,l3⟩
           right
           have hcc:c∈t.cells:=by
            refine (h.ce c).2 ⟨?_,((hs _).1 l2).resolve_right hr,fun y hy z z1 z2 z3=>l3 y (mem_snoc.2 (.inl hy)) z z1 z2 ((hs _).2 (.inl z3))⟩
            obtain ⟨x,hx,x1,x2⟩:=l1
            rcases mem_snoc.1 hx with hx | rfl
            · exact ⟨x,hx,x1,x2⟩
            · exact absurd x1.symm hr
           refine ⟨hcc,fun ht'=>?_⟩
           have q:=l3 _ (mem_snoc.2 (.inr rfl)) c0 rfl ht'.symm (by rw [hcd];exact has_self h.tr.seen h1)
           exact hr ((newer_tri (o1 c hcc ht') q).trans hcd)
   · rw [List.mem_singleton] at hg
     subst hg
     exact ⟨rfl,has_self h.tr.seen h1⟩
 · have e0:cellPutM t n e s m1 m2 m3=t:=by unfold cellPutM;rw [if_neg hc]
   rw [e0]
   exact ⟨[],Went.none hG h fun _ hx=>hx⟩
theorem Can.fence (h:Can G t) (n e:Int):Can G (fenceM t n e):=by
 by_cases hc:pairB n e=true/\fencedL t.fences n e=false
 · have ht:=h.tr.fence n e
   obtain ⟨_,hf⟩:=fencedM_is h.tr.fences hc.1 (e:=e) (n:=n)
   have e1:fenceM t n e=⟨t.seen,fenceL t.fences n e,unfR (fenceL t.fences n e) t.routes,t.cells⟩:=by unfold fenceM;rw [if_pos hc]
   rw [e1] at ht hf ⊢
   refine ⟨ht,h.known,fun r=>?_,h.ce⟩
   show r∈unfR _ _↔_
   rw [mem_unfR,h.ro]
   constructor
   · rintro ⟨⟨l1,l2,l3,l4⟩,l5⟩
     exact ⟨l1,l2,l5,l4⟩
   · rintro ⟨l1,l2,l3,l4⟩
     refine ⟨⟨l1,l2,?_,l4⟩,l3⟩
     have:=hf r.dot.node r.dot.epoch
     simp only at this
     rw [this,Bool.or_eq_false_iff] at l3
     exact l3.1
 · have e0:fenceM t n e=t:=by unfold fenceM;rw [if_neg hc]
   rw [e0];exact h
end
structure HSt (G:List TG) (s:TSt):Prop where
 h:Hist G
 can:∀ n,0<=n->n<3->Can G (tabT s n)
 own:∀ n,0<=n->n<3->∀ g∈G,g.dot.node=n->g.dot.epoch<=epT s n/\(g.dot.epoch=epT s n->hasB (tabT s n).seen g.dot=true)
 node:∀ g∈G,0<=g.dot.node/\g.dot.node<3
theorem can_empty:Can [] emptyT where
 tr:=tr_empty
 known d h:=by rw [has_iff] at h;have:topM emptyT.seen d.node d.epoch=0:=rfl;omega
 ro r:=⟨fun h=>(nomatch h),fun ⟨⟨g,hg,_⟩,_⟩=>nomatch hg⟩
 ce c:=⟨fun h=>(nomatch h),fun ⟨⟨g,hg,_⟩,_⟩=>nomatch hg⟩
theorem HSt.start:HSt [] startT:=by
 refine ⟨⟨fun g hg=>(nomatch hg),fun g hg=>(nomatch hg),fun g hg=>(nomatch hg),fun g hg=>(nomatch hg)⟩,fun n h0 h3=>?_,fun n h0 h3 g hg=>(nomatch hg),fun g hg=>(nomatch hg)⟩
 have:n=0\/n=1\/n=2:=by omega
 rcases this with rfl | rfl | rfl<;>exact can_empty
theorem HSt.fresh {G:List TG} {s:TSt} (h:HSt G s) {n:Int} (h0:0<=n) (h3:n<3):∀ k∈G,k.dot≠nextDot (tabT s n).seen n (epT s n):=fun k hk he=>by
 have:=(h.own n h0 h3 k hk (by rw [he];rfl)).2 (by rw [he];rfl)
 exact next_fresh this he
theorem HSt.act {i:Nat} {G:List TG} {s:TSt} (h:HSt G s) (hs:Story i s) (hi:i<=20) {d:TDeed} (hd:deedOk d) (a:Int):∃ L,Went G (tabT s (d.who.tmod 3)) (actT s d a) (nextDot (tabT s (d.who.tmod 3)).seen (d.who.tmod 3) (epT s (d.who.tmod 3))) L:=by
 obtain ⟨hw,ho,hk,hx⟩:=hd
 have m:=tmod3 ho.1
 have mk:=tmod3 hk.1
 have hc:=h.can _ m.1 m.2
 have hf:=h.fresh m.1 m.2
 have hp:pairB (d.who.tmod 3) (epT s (d.who.tmod 3))=true:=by
  obtain ⟨_,_,t3⟩:=hs.tab m
  rw [pair_iff];omega
 unfold actT
 split
 · exact went_add h.h hc hf _
 · split
   · exact went_drop h.h hc hp hf _
   · split
     · exact went_put h.h hc hf _ _ _ _
     · split
       · split
         · refine ⟨[],Went.none h.h (hc.fence _ _) fun x hx=>?_⟩
           rw [(fenceM_facts _ _ _).1];exact hx
         · exact ⟨[],Went.none h.h hc fun x hx=>hx⟩
       · obtain ⟨_,hj,hcan⟩:=mergeM_is h.h hc (h.can _ mk.1 mk.2)
         refine ⟨[],Went.none h.h hcan fun x hx=>?_⟩
         rw [hj.has,hx];rfl
theorem getD_set_ne {α:Type} [Inhabited α] {l:List α} {j k:Nat} {x:α} (h:j≠k):(l.set k x).getD j default=l.getD j default:=by
 rw [List.getD_eq_getElem?_getD,List.getD_eq_getElem?_getD,List.getElem?_set_ne (Ne.symm h)]
theorem getD_set_eq {α:Type} [Inhabited α] {l:List α} {k:Nat} {x:α} (h:k<l.length):(l.set k x).getD k default=x:=by
 rw [List.getD_eq_getElem?_getD,List.getElem?_set_self h];rfl
theorem HSt.step {i:Nat} {G:List TG} {s:TSt} (h:HSt G s) (hs:Story i s) (hi:i<=20) {d:TDeed} (hd:deedOk d):∃ G',HSt G' (stepT s d):=by
 obtain ⟨L,w⟩:=h.act hs hi hd (s.at_+d.k.tmod 3)
 have m:=tmod3 hd.2.1.1
 have hlt:=hs.lt
 have hle:=hs.le
 obtain ⟨n,hn⟩:∃ n,n=d.who.tmod 3:=⟨_,rfl⟩
 obtain ⟨t',ht⟩:∃ t',t'=actT s d (s.at_+d.k.tmod 3):=⟨_,rfl⟩
 rw [<-hn] at m w
 rw [<-ht] at w
 have tab:∀ j,0<=j->j<3->tabT (stepT s d) j=if j=n then t' else tabT s j:=fun j h0 h3=>by
  show (s.ts.set (d.who.tmod 3).toNat (actT s d (s.at_+d.k.tmod 3))).getD j.toNat default=_
  rw [<-hn,<-ht]
  split
  · rename_i e;subst e;exact getD_set_eq (by omega)
  · exact getD_set_ne (by omega)
 have ept:∀ j,0<=j->j<3->epT (stepT s d) j=if j=n/\fencedL t'.fences n (epT s n)=true then epT s n+1 else epT s j:=fun j h0 h3=>by
  have e1:epT (stepT s d) j=(if fencedL t'.fences n (epT s n)=true then s.es.set n.toNat (epT s n+1) else s.es).getD j.toNat default:=by
   show (if fencedL (actT s d (s.at_+d.k.tmod 3)).fences (d.who.tmod 3) (epT s (d.who.tmod 3))=true then s.es.set (d.who.tmod 3).toNat (epT s (d.who.tmod 3)+1) else s.es).getD j.toNat default=_
   rw [<-hn,<-ht]
  rw [e1]
  by_cases hf:fencedL t'.fences n (epT s n)=true
  · rw [if_pos hf]
    by_cases e:j=n
    · subst e;rw [if_pos ⟨rfl,hf⟩];exact getD_set_eq (by omega)
    · rw [if_neg (fun x=>e x.1)];exact getD_set_ne (by omega)
  · rw [if_neg hf,if_neg (fun x=>hf x.2)];rfl
 refine ⟨G++L,w.hist,fun j h0 h3=>?_,fun j h0 h3 g hg hgn=>?_,fun g hg=>?_⟩
 · rw [tab j h0 h3]
   split
   · exact w.can
   · exact w.other (h.can j h0 h3) (h.fresh m.1 m.2)
 · rw [tab j h0 h3,ept j h0 h3]
   rcases List.mem_append.1 hg with hg | hg
   · obtain ⟨o1,o2⟩:=h.own j h0 h3 g hg hgn
     by_cases e:j=n
     · subst e
       rw [if_pos rfl]
       split
       · exact ⟨by omega,fun e=>by omega⟩
       · exact ⟨o1,fun e=>w.mono _ (o2 e)⟩
     · rw [if_neg e,if_neg (fun x=>e x.1)]
       exact ⟨o1,o2⟩
   · obtain ⟨w1,w2⟩:=w.new g hg
     have e:j=n:=by rw [<-hgn,w1];rfl
     subst e
     have we:g.dot.epoch=epT s j:=by rw [w1];rfl
     rw [if_pos rfl]
     split
     · exact ⟨by omega,fun e=>w2⟩
     · exact ⟨by omega,fun e=>w2⟩
 · rcases List.mem_append.1 hg with hg | hg
   · exact h.node g hg
   · obtain ⟨w1,_⟩:=w.new g hg
     have:g.dot.node=n:=by rw [w1];rfl
     omega
theorem HSt.take {l:List TDeed} (h:∀ d∈l,deedOk d) (hl:l.length<=20):∀ k,k<=l.length->∃ G,HSt G ((l.take k).foldl stepT startT):=by
 intro k
 induction k with
 | zero=>intro _;exact ⟨[],HSt.start⟩
 | succ k ih =>
  intro hk
  rw [foldl_more _ _ (by omega)]
  obtain ⟨G,hG⟩:=ih (by omega)
  exact hG.step (Story.take h k (by omega)) (by omega) (h _ (getD_mem (by omega)))
theorem story_hist {l:List TDeed} (h:∀ d∈l,deedOk d) (hl:l.length<=20):∃ G,HSt G (storyT l):=by
 have:=HSt.take h hl l.length (Nat.le_refl _)
 rwa [List.take_length] at this
structure LSt (G:List TG) (a b:TTable) (n e:Int):Prop where
 h:Hist G
 ca:Can G a
 cb:Can G b
 own:∀ g∈G,g.dot.node=n->g.dot.epoch=e->hasB b.seen g.dot=true
 sub:∀ x,hasB a.seen x=true->hasB b.seen x=true
 fen:b.fences=a.fences
theorem LSt.fresh {G:List TG} {a b:TTable} {n e:Int} (h:LSt G a b n e):∀ k∈G,k.dot≠nextDot b.seen n e:=fun k hk he=>by
 have:=h.own k hk (by rw [he];rfl) (by rw [he];rfl)
 exact next_fresh this he
theorem LSt.step {G L:List TG} {a b b':TTable} {n e:Int} (h:LSt G a b n e) (w:Went G b b' (nextDot b.seen n e) L) (hf:b'.fences=b.fences):LSt (G++L) a b' n e where
 h:=w.hist
 ca:=w.other h.ca h.fresh
 cb:=w.can
 own g hg g1 g2:=by
  rcases List.mem_append.1 hg with hg | hg
  · exact w.mono _ (h.own g hg g1 g2)
  · exact (w.new g hg).2
 sub x hx:=w.mono _ (h.sub x hx)
 fen:=hf.trans h.fen
end
section
attribute [local irreducible] DW SeqD DV DOp DC DVX
theorem s_topic_dc {P Q:Prop} (q:Q) (h:Hid Q->P:=by (intro q;simp (maxSteps:=1000000) (disch:=omega) only [push_cast,↓reduceIte,reduceCtorEq,Nat.reduceAdd,Nat.reduceMul,Nat.reduceLT,Nat.reduceLeDiff,Nat.reduceEqDiff,Nat.reduceSub,Int.reduceToNat,Int.reduceLT,Int.reduceLE,Int.reduceAdd,Int.reduceSub,Int.reduceMul,Int.reduceNeg,Nat.reduceBEq,Int.reduceBEq,Int.reduceBNe,Nat.reduceBNe,Int.reduceEq,hkm];exact q.1)):P:=h ⟨q⟩
theorem topic_dc (k:Int) (F:Own):(0<=k/\k<=255)->DC Tryz.prog 20 [.int .u8 k] (([]:Own)++F) fun d G=>d = .str (topicM k)/\G=[]++F:=by
 intro hA
 obtain ⟨h0,h1⟩:=hA
 refine DC.bodyS (n_:=8) (show Tryz.prog.funcs[20]? = some Tryz.f20 by kernel_rfl) rfl rfl (by rfl) ?_
 simp only [env0,List.cons_append,List.nil_append]
 have kw:=ksIs [0,2]
 have ow:=ownIs []
 have q0:=Int.tmod_nonneg 7 h0;have q1:=Int.tmod_lt_of_pos k (show (0:Int)<7 by decide)
 rcases (show k.tmod 7=0\/k.tmod 7=1\/k.tmod 7=2\/k.tmod 7=3\/k.tmod 7=4\/k.tmod 7=5\/k.tmod 7=6 by omega) with hkm | hkm | hkm | hkm | hkm | hkm | hkm
 repeat' (first
  | refine g_ ?_
  | ((with_reducible refine And.intro ?_ ?_);(exact sv))
  | (refine DW.cond (by rfl) ?_ ?_<;>(first | exact i0_ | (intro hb;(try simp only [↓reduceCtorEq,not_true_eq_false,not_false_eq_true,hbs,Int.reduceBEq,Int.reduceBNe,Int.reduceEq] at hb);(try refine s_topic_dc ?_))))
  | ((with_reducible refine FVg_cases ?_ ?_)<;>(intro hb;rw [hb];revert hb;(first | exact i0_ | (intro hb;(try simp only [↓reduceCtorEq,not_true_eq_false,not_false_eq_true,hbs,Int.reduceBEq,Int.reduceBNe,Int.reduceEq] at hb);(try refine s_topic_dc ?_)))))
  | ((first | refine rn_ ?_ | refine kn_ ?_)<;>(refine s_topic_dc ?_))
  | ((refine on_ ?_);refine s_topic_dc ?_)
  | refine f_ ?_
  | with_reducible intro b)
 all_goals (refine ⟨_,_,le.of_eq ?_,⟨rfl,rfl⟩,SubP.refl⟩;rw [topicM,hkm];rfl)
theorem s_filter_dc {P Q:Prop} (q:Q) (h:Hid Q->P:=by (intro q;simp (maxSteps:=1000000) (disch:=omega) only [push_cast,↓reduceIte,reduceCtorEq,Nat.reduceAdd,Nat.reduceMul,Nat.reduceLT,Nat.reduceLeDiff,Nat.reduceEqDiff,Nat.reduceSub,Int.reduceToNat,Int.reduceLT,Int.reduceLE,Int.reduceAdd,Int.reduceSub,Int.reduceMul,Int.reduceNeg,Nat.reduceBEq,Int.reduceBEq,Int.reduceBNe,Nat.reduceBNe,Int.reduceEq,hkm];exact q.1)):P:=h ⟨q⟩
theorem filter_dc (k:Int) (F:Own):(0<=k/\k<=255)->DC Tryz.prog 17 [.int .u8 k] (([]:Own)++F) fun d G=>d = .str (filterM k)/\G=[]++F:=by
 intro hA
 obtain ⟨h0,h1⟩:=hA
 refine DC.bodyS (n_:=8) (show Tryz.prog.funcs[17]? = some Tryz.f17 by kernel_rfl) rfl rfl (by rfl) ?_
 simp only [env0,List.cons_append,List.nil_append]
 have kw:=ksIs [0,2]
 have ow:=ownIs []
 have q0:=Int.tmod_nonneg 10 h0;have q1:=Int.tmod_lt_of_pos k (show (0:Int)<10 by decide)
 rcases (show k.tmod 10=0\/k.tmod 10=1\/k.tmod 10=2\/k.tmod 10=3\/k.tmod 10=4\/k.tmod 10=5\/k.tmod 10=6\/k.tmod 10=7\/k.tmod 10=8\/k.tmod 10=9 by omega) with hkm | hkm | hkm | hkm | hkm | hkm | hkm | hkm | hkm | hkm
 repeat' (first
  | refine g_ ?_
  | ((with_reducible refine And.intro ?_ ?_);(exact sv))
  | (refine DW.cond (by rfl) ?_ ?_<;>(first | exact i0_ | (intro hb;(try simp only [↓reduceCtorEq,not_true_eq_false,not_false_eq_true,hbs,Int.reduceBEq,Int.reduceBNe,Int.reduceEq] at hb);(try refine s_filter_dc ?_))))
  | ((with_reducible refine FVg_cases ?_ ?_)<;>(intro hb;rw [hb];revert hb;(first | exact i0_ | (intro hb;(try simp only [↓reduceCtorEq,not_true_eq_false,not_false_eq_true,hbs,Int.reduceBEq,Int.reduceBNe,Int.reduceEq] at hb);(try refine s_filter_dc ?_)))))
  | ((first | refine rn_ ?_ | refine kn_ ?_)<;>(refine s_filter_dc ?_))
  | ((refine on_ ?_);refine s_filter_dc ?_)
  | refine f_ ?_
  | with_reducible intro b)
 all_goals (refine ⟨_,_,le.of_eq ?_,⟨rfl,rfl⟩,SubP.refl⟩;rw [filterM,hkm];rfl)
end
end Go.Proofs.YtifdpbghkccaoaaGreatDoor
