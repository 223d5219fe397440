/- strings.Builder wherever it lies: what it holds, and what is written to it, over data. No statement of the program. -/
import Derived.Test.YtifdpbghkccaoaaGreatDoorEn
import Derived.Test.YtifdpbghkccaoaaGreatDoorSsx
import Derived.Shelf.Strings.BuilderK
import Derived.Shelf.Strings.OnBuilder
import Derived.Shelf.Strconv.Itoa4
import Derived.Test.YtifdpbghkccaoaaGreatDoorEu
import Derived.KernelRfl
import Derived.Sort.Grow
import Derived.Deep.Draws
import Derived.Test.YtifdpbghkccaoaaGreatDoorEm
import Derived.Maps.RangeRun
namespace Go.Proofs.YtifdpbghkccaoaaGreatDoor
open Go.RowKit Go.Shelf
set_option linter.unusedSimpArgs false
set_option linter.unusedVariables false
set_option linter.unusedSectionVars false
section
section
variable {P:Program} {ρ : Go.Shelf.Ren}
set_option maxHeartbeats 1000000 in
set_option maxRecDepth 100000 in
theorem copyCheck_used (L:Lays.n240 P ρ) (hsz:(P.info? (ρ.t 72)).map (·.size)=some 2) (b off:Nat) (w:World) (h0:w.cell? ⟨b,off,none⟩=some (.pointer (some ⟨b,off,none⟩))) :
  Calls P (ρ.f 240) #[.pointer (some ⟨b,off,none⟩)] w fun e w'=>e = .returned (.tuple #[])/\w'=w:=by
 obtain ⟨j,hj,_⟩:=Option.map_eq_some_iff.1 hsz
 have mixed:=L.mixed
 have t72:=L.t72;have a72:=L.a72;have z72:=L.z72;have v72:=L.v72;have u72:=run_underlying L.t72
 have t70:=L.t70;have a70:=L.a70;have z70:=L.z70;have v70:=L.v70;have u70:=run_underlying L.t70
 have t9:=L.t9;have a9:=L.a9;have z9:=L.z9;have v9:=L.v9;have u9:=run_underlying L.t9
 have t4:=L.t4;have a4:=L.a4;have z4:=L.z4;have v4:=L.v4;have u4:=run_underlying L.t4
 have t164:=L.t164;have a164:=L.a164;have z164:=L.z164;have v164:=L.v164;have u164:=run_underlying L.t164
 go_enter L.f240,Body.n240_ntmps ρ
 go_wp2
 rw [Lib.run_neq_ptr_same w ⟨b,off,none⟩ L.t70 hj]
 go_wp2
 go_end0
 exact ⟨rfl,rfl⟩
set_option maxHeartbeats 1000000 in
set_option maxRecDepth 100000 in
theorem copyCheck_fresh (L:Lays.n240 P ρ) (hsz:(P.info? (ρ.t 72)).map (·.size)=some 2) (b off:Nat) (w:World) (h0:w.cell? ⟨b,off,none⟩=some (.pointer none)) {T:TypeId} {k:Nat} (hsh:w.shape? b=some (T,k)) (hoff:off<k)
  (hl:liesAt P P.depth T (k / P.cellsOf T) off (ρ.t 72) 1=true) (hfz:w.frozen? ⟨b,off,none⟩=false) :
  Calls P (ρ.f 240) #[.pointer (some ⟨b,off,none⟩)] w fun e w'=>e = .returned (.tuple #[])/\w'=w.setCell ⟨b,off,none⟩ (.pointer (some ⟨b,off,none⟩)):=by
 obtain ⟨j,hj,hjs⟩:=Option.map_eq_some_iff.1 hsz
 have mixed:=L.mixed
 have t72:=L.t72;have a72:=L.a72;have z72:=L.z72;have v72:=L.v72;have u72:=run_underlying L.t72
 have t70:=L.t70;have a70:=L.a70;have z70:=L.z70;have v70:=L.v70;have u70:=run_underlying L.t70
 have t9:=L.t9;have a9:=L.a9;have z9:=L.z9;have v9:=L.v9;have u9:=run_underlying L.t9
 have t4:=L.t4;have a4:=L.a4;have z4:=L.z4;have v4:=L.v4;have u4:=run_underlying L.t4
 have t164:=L.t164;have a164:=L.a164;have z164:=L.z164;have v164:=L.v164;have u164:=run_underlying L.t164
 go_enter L.f240,Body.n240_ntmps ρ
 go_wp2
 rw [Lib.run_to_unsafe w ⟨b,off,none⟩ L.t70 L.t164 hj (by rw [hjs];decide) hsh hoff]
 simp only [Result.andThen]
 rw [Oper.upon_value]
 go_wp2
 rw [run_callFunc_extern L.f276 (by kernel_rfl) (by kernel_rfl) (by kernel_rfl) (e:=Extern.AbiNoEscape.same) (by kernel_rfl)]
 rw [Lib.run_noEscape]
 simp only [Result.andThen]
 rw [Oper.upon_value]
 go_wp2
 rw [Lib.run_from_unsafe w ⟨b,off,none⟩ L.t164 L.t70 hj hsh hl]
 simp only [Result.andThen]
 rw [Oper.upon_value]
 go_wp2
 go_end0
 exact ⟨rfl,rfl⟩
theorem string_atB (L:Lays.n169 P ρ) (t5:P.underlying (ρ.t 5)=some (.int .u8)) (b off n:Nat) (l:List UInt8) (a:Option Addr) (cap:Nat) (q:Option Addr) (w w1 w2:World) (c1:w.cell? ⟨b,off+1,none⟩=some (.slice a n cap)) (c2:w1.cell? ⟨b,off+1,none⟩=some (.slice a n cap))
  (hSD:(Builtin.unsafeSliceData_ #[(ρ.t 37)] (ρ.t 127) #[.slice a n cap]).run P w.drew = .ok (.pointer q) w1.drew) (hh:w1.drawn=w.drawn)
  (hUS:(Builtin.unsafeString_ #[(ρ.t 127),(ρ.t 3)] (ρ.t 9) #[.pointer q, .int .i64 n]).run P w1.drew = .ok (.string ⟨l.toArray⟩) w2) :
  Calls P (ρ.f 169) #[.pointer (some ⟨b,off,none⟩)] w fun e w'=>e = .returned (.string ⟨l.toArray⟩)/\w'=w2:=by
 have c3:w.drew.cell? ⟨b,off+1,none⟩=some (.slice a n cap):=c1
 have c4:w1.drew.cell? ⟨b,off+1,none⟩=some (.slice a n cap):=c2
 have mixed:=L.mixed
 have t72:=L.t72;have a72:=L.a72;have z72:=L.z72;have v72:=L.v72;have u72:=run_underlying L.t72
 have t70:=L.t70;have a70:=L.a70;have z70:=L.z70;have v70:=L.v70;have u70:=run_underlying L.t70
 have t37:=L.t37;have a37:=L.a37;have z37:=L.z37;have v37:=L.v37;have u37:=run_underlying L.t37
 have t127:=L.t127;have a127:=L.a127;have z127:=L.z127;have v127:=L.v127;have u127:=run_underlying L.t127
 have t3:=L.t3;have a3:=L.a3;have z3:=L.z3;have v3:=L.v3;have u3:=run_underlying L.t3
 have t9:=L.t9;have a9:=L.a9;have z9:=L.z9;have v9:=L.v9;have u9:=run_underlying L.t9
 go_enter L.f169,Body.n169_ntmps ρ
 go_wp2
 go_region_o
 all_goals (go_wp2;go_ret;exact ⟨rfl,rfl⟩)
end
theorem one_ofB {xs:Array Value} (h:xs.size=1):∃ a,xs = #[a]:=by
 obtain ⟨l⟩:=xs
 match l,h with
 | [a],_=>exact ⟨a,rfl⟩
theorem raw_val {S:Addr->Prop} {w:World} {v u:Value} (h:R S w v (.raw u)):v=u:=by cases h;rfl
theorem tb_of {w:World} {L1 L2:Own} {T:TypeId} {b:Nat} {cs:List V} (hs:Sim w (L1 ++ .tb T b cs::L2)):∃ xs fr,w.heap[b]? = some (.cells xs T fr)/\free fr 0 xs.size/\xs.size=cs.length/\(∀ k,k<cs.length->R (stable w (L1 ++ .tb T b cs::L2)) w (xs.getD k undef) (cs.getD k .any)) /\
  ∀ k,k<cs.length->w.cell? ⟨b,k,none⟩=some (xs.getD k undef)/\w.frozen? ⟨b,k,none⟩=false:=by
 obtain ⟨xs,fr,h1,h2,h3,h4⟩:=hs.holds (.tb T b cs) (by simp)
 refine ⟨xs,fr,h1,h2,h3,h4,fun k hk=>⟨?_,?_⟩⟩
 · have hk':k<xs.size:=by omega
   simp [World.cell?,h1,Array.getD_eq_getD_getElem?,hk']
 · have:=h2.at k (Nat.zero_le _) (by omega)
   simp [World.frozen?,h1]
   omega
def OnTb (H:Own) (b:Nat) (G:TypeId->List V->(Ent->Own)->Prop):Prop:=∃ T cs,On H (.tb T b cs) (G T cs)
theorem OnTb.here {H:Own} {T:TypeId} {b:Nat} {cs:List V} {G:TypeId->List V->(Ent->Own)->Prop} (h:G T cs fun x=>x::H):OnTb (.tb T b cs::H) b G:=⟨T,cs,On.here h⟩
theorem OnTb.next {H:Own} {b:Nat} {y:Ent} {G:TypeId->List V->(Ent->Own)->Prop} (h:OnTb H b fun T cs C=>G T cs fun x=>y::C x):OnTb (y::H) b G:=by
 obtain ⟨T,cs,h⟩:=h
 exact ⟨T,cs,On.next h⟩
def OnBa (H:Own) (v:Value) (G:TypeId->List UInt8->(Ent->Own)->Prop):Prop:=∃ T l,On H (.ba T v l) (G T l)
theorem OnBa.here {H:Own} {T:TypeId} {v:Value} {l:List UInt8} {G:TypeId->List UInt8->(Ent->Own)->Prop} (h:G T l fun x=>x::H):OnBa (.ba T v l::H) v G:=⟨T,l,On.here h⟩
theorem OnBa.next {H:Own} {v:Value} {y:Ent} {G:TypeId->List UInt8->(Ent->Own)->Prop} (h:OnBa H v fun T l C=>G T l fun x=>y::C x):OnBa (y::H) v G:=by
 obtain ⟨T,l,h⟩:=h
 exact ⟨T,l,On.next h⟩
section
variable {P:Program} {o:Oper} {f:Operand->V} {H:Own} {K:V->Own->Prop}
theorem DOp.loadT_ {t:TypeId} {x:Operand} {b off:Nat} (hop:o.op = .load t x) (hx:f x = .raw (.pointer (some ⟨b,off,none⟩))) (h:OnTb H b fun T cs _=>partS (ty P t) (cs.drop off) 0/\K (partV (ty P t) (cs.drop off) 0) H):DOp P o f H K:=by
 obtain ⟨T,cs,L1,L2,rfl,hp,hk⟩:=h
 refine DOp.step fun a w hs hr=>?_
 have hv:=raw_val (by have:=hr x (by simp [hop,Op.operands]);rw [hx] at this;exact this)
 obtain ⟨xs,fr,h1,h2,h3,h4,h5⟩:=tb_of hs
 obtain ⟨v,e1,e2⟩:=loadVar_run (P:=P) (S:=stable w (L1 ++ .tb T b cs::L2)) (w:=w) (t:=t) (b:=⟨b,off,none⟩) (cs:=cs.drop off) rfl (fun k hk=>by
  rw [List.length_drop] at hk
  simp only
  rw [(h5 (off+k) (by omega)).1];rfl) (fun k hk=>by
  rw [List.length_drop] at hk
  have:=h4 (off+k) (by omega)
  simp only
  rw [cellAt,(h5 (off+k) (by omega)).1]
  simpa [List.getD_eq_getElem?_getD,List.getElem?_drop] using this) hp
 refine ⟨v,w,_,_,?_,⟨hs, .refl _ _⟩,e2,hk⟩
 unfold execOp
 rw [hop]
 simp [Instr.loadAt,hv,Instr.sureAddr,e1]
theorem DOp.storeT_ {t:TypeId} {p x:Operand} {b off:Nat} (hop:o.op = .store t p x) (hp:f p = .raw (.pointer (some ⟨b,off,none⟩)))
  (h:OnTb H b fun T cs C=>(f x).solid=true/\(f x).cs.all V.one=true/\(ty P t).kind≠0/\(ty P t).kind≠11/\(f x).cs.length=(ty P t).size/\off+(ty P t).size<=cs.length/\K .any (C (.tb T b (layV cs off (f x).cs)))):DOp P o f H K:=by
 obtain ⟨T,cs,L1,L2,rfl,h1,h2,h3,h4,h5,h6,hk⟩:=h
 refine DOp.skip_ fun a w hs hr=>?_
 have hv:=raw_val (by have:=hr p (by simp [hop,Op.operands]);rw [hp] at this;exact this)
 have hx:=hr x (by simp [hop,Op.operands])
 obtain ⟨c1,c2⟩:=hx.solid h1
 obtain ⟨xs,fr,g1,g2,g3,g4,g5⟩:=tb_of hs
 have hone:∀ u∈(a.eval x).cells.toList,u.oneCell'=true:=fun u hu=>by
  obtain ⟨i,hi,rfl⟩:=List.getElem_of_mem hu
  have hi':i<(a.eval x).cells.size:=by simpa using hi
  have:=c2 i (by omega)
  have h1':=List.all_eq_true.1 h2 ((f x).cs[i]'(by omega)) (List.getElem_mem _)
  have e:(f x).cs.getD i .any=(f x).cs[i]'(by omega):=by
   have:i<(f x).cs.length:=by omega
   simp [List.getD_eq_getElem?_getD,this]
  rw [e] at this
  have:=one_cell this h1'
  simpa [Array.getD_eq_getD_getElem?,hi'] using this
 have hrun:=run_storeCells_cells (P:=P) b off (a.eval x).cells.toList 0 w (fun j hj=>by
  simp only [Array.length_toList] at hj
  rw [Nat.add_zero,(g5 (off+j) (by omega)).1];rfl) (fun j hj=>by
  simp only [Array.length_toList] at hj
  rw [Nat.add_zero];exact (g5 (off+j) (by omega)).2) hone
 rw [Nat.add_zero] at hrun
 obtain ⟨ys,y1,y2,y3⟩:=setCells_row b (a.eval x).cells.toList off w xs T fr g1 (by simp;omega)
 obtain ⟨r1,r2,r3⟩:=setCells_rest b (a.eval x).cells.toList off w
 obtain ⟨l1,l2⟩:=lay_at cs (f x).cs off (by omega)
 refine ⟨w.setCells b off (a.eval x).cells.toList,_,?_,Sim.swap hs (e1:=.tb T b (layV cs off (f x).cs)) r1 r2 r3 (by rw [setCells_size];exact Nat.le_refl _) (fun k hk hn=>setCells_other b _ _ _ k fun e=>hn e) (fun q hq hn=>World.cell?_setCells_out b _ _ _ q fun e _=>absurd e hn)
  (fun k h=>.inl h) (fun q h=>.inl h) (fun hst=>?_),hk⟩
 · unfold execOp
   rw [hop]
   simp [Instr.storeAt,hv,Instr.sureAddr,storeVar,run_sizeOf h3 h4,c1,h5,hrun]
 · refine ⟨ys,fr,y1,by rw [y2];exact g2,by rw [y2,g3,l1],fun k hk=>?_⟩
   rw [y3 k,l2 k]
   rw [l1] at hk
   simp only [Array.length_toList]
   by_cases hk':off<=k/\k<off+(f x).cs.length
   · rw [if_pos hk',if_pos (by omega)]
     have:=(c2 (k - off) (by omega)).mono hst
     simpa [Array.getD_eq_getD_getElem?,List.getD_eq_getElem?_getD] using this
   · rw [if_neg hk',if_neg (by omega)]
     exact (g4 k hk).mono hst
theorem u8_val {S:Addr->Prop} {w:World} {v:Value} {b:UInt8} (h:R S w v (u8 b)):v = .int .u8 ((b.toNat:Nat):Int):=by unfold u8 at h;cases h;rfl
theorem news_u8 {S:Addr->Prop} {w:World} {news:List Value} {xs:List UInt8} (h:∀ i k,i<(xs.map u8).length->k<1->R S w (news.getD (i * 1+k) undef) (((xs.map u8).getD i .any).cell k)):∀ i,i<xs.length->news.getD i undef = .int .u8 (((xs.getD i 0).toNat:Nat):Int):=fun i hi=>by
 have:=h i 0 (by simpa using hi) (by decide)
 have e:((xs.map u8).getD i .any).cell 0=u8 (xs.getD i 0):=by
  simp [List.getD_eq_getElem?_getD,hi];rfl
 rw [Nat.mul_one,Nat.add_zero,e] at this
 exact u8_val this
theorem app_getD (l xs:List UInt8) (k:Nat):(l++xs).getD k 0=if k<l.length then l.getD k 0 else xs.getD (k - l.length) 0:=by
 simp only [List.getD_eq_getElem?_getD]
 split
 · rename_i h;rw [List.getElem?_append_left h]
 · rename_i h;rw [List.getElem?_append_right (by omega)]
def AppB (P:Program) (sT xT T:TypeId) (l xs:List UInt8):Prop :=
 (ty P sT).kind=4/\(ty P sT).elem=T/\(ty P T).kind=2/\(ty P xT).kind≠0/\(ty P xT).kind≠11/\(ty P xT).kind≠2/\(ty P T).size=1/\(ty P T).zero=[.int .u8 0]/\(ty P T).bytes=1/\l.length+xs.length<=140737488355328
theorem DOp.appba_ {s x:Operand} {sT xT:TypeId} {v:Value} {n:Nat} {xs:List UInt8} (hop:o.op = .call { callee:=.builtin .append,args:=#[s,x],argTypes:=#[sT,xT] }) (hfs:f s = .ar v n) (hfx:srcL (f x)=some (xs.map u8))
  (h:OnBa H v fun T l C=>AppB P sT xT T l xs/\∀ v',K (.ar v' (l++xs).length) (C (.ba T v' (l++xs)))):DOp P o f H K:=by
 obtain ⟨E,l,L1,L2,rfl,⟨hA0,hE,hA1,hA3,hA4,hA5,hsz,hz0,hby,hlen⟩,hk⟩:=h
 refine DOp.step fun a w hs hr=>?_
 have hS:∀ q,stable w (L1 ++ .ba E v l::L2) q->(w.cell? q).isSome=true:=fun q hq=>hq.1
 have hvs:=hr s (by simp [hop,Op.operands,Call.operands])
 rw [hfs] at hvs
 generalize hvv:a.eval s=u at hvs
 cases hvs with
 | ar base n cap hcap hnil =>
 have hxu:∀ y∈xs.map u8,y.n=1:=fun y hy=>by obtain ⟨c,_,rfl⟩:=List.mem_map.1 hy;rfl
 obtain ⟨x1,news,x2,x3,x4⟩:=src_run (P:=P) hS (hr x (by simp [hop,Op.operands,Call.operands])) hfx hxu
 have x5:=news_u8 x4
 rw [List.length_map] at x1 x2 x3
 rw [Nat.mul_one] at x3
 have hu:=und_slice hA0
 rw [hE] at hu
 have hEsz:(sizeOf E).run P w = .ok 1 w:=by rw [run_sizeOf (by rw [hA1];decide) (by rw [hA1];decide),hsz]
 obtain ⟨dx,hdx,hdi⟩:=not_int (w:=w) hA3 hA4 hA5
 have hm:(dx matches .int _)=false:=by cases dx<;>first | rfl | exact absurd rfl (hdi _)
 have hholds:=hs.holds (.ba E (.slice base n cap) l) (by simp)
 have hnl:n=l.length:=by
  cases base with
  | none=>obtain ⟨t1,_,t3⟩:=hholds;rw [t1,t3];rfl
  | some b=>exact hholds.2.1
 by_cases hfit:n+xs.length<=cap
 · cases base with
   | none =>
    obtain ⟨t1,t2,t3⟩:=hholds
    subst t1
    subst t2
    subst t3
    have hx0:xs=[]:=List.eq_nil_of_length_eq_zero (by omega)
    subst hx0
    refine ⟨_,w, .ar (.slice none 0 0) 0,_,?_,⟨hs, .refl _ _⟩, .ar _ _ _ (Nat.le_refl _) (fun _=>rfl),by simpa using hk (.slice none 0 0)⟩
    unfold execOp
    rw [hop]
    have hn0:news=[]:=List.eq_nil_of_length_eq_zero (by simpa using x3)
    subst hn0
    have x1':(Builtin.lenOf (a.eval x)).run P w = .ok 0 w:=x1
    have x2':(Builtin.firstCells 1 0 (a.eval x)).run P w = .ok #[] w:=x2
    simp [resolve,invoke,Go.builtin,Builtin.append_,hvv,run_underlying hu,run_underlying hdx,hm,hEsz,x1',x2']
   | some b =>
    obtain ⟨⟨s0,s1⟩,_,hnc,hcz,ys,fr,g1,g2,g3,g4⟩:=hholds
    obtain ⟨bb,bo,bs'⟩:=b
    simp only at s0 s1
    subst s0
    subst s1
    simp only at g1
    have hcell:∀ k,k<ys.size->w.cell? ⟨bb,k,none⟩=some (ys.getD k undef)/\w.frozen? ⟨bb,k,none⟩=false:=fun k hk=>⟨by simp [World.cell?,g1,Array.getD_eq_getD_getElem?,hk],frozen_of g1 (by omega)⟩
    have hone:∀ u∈news,u.oneCell'=true:=fun u hu'=>by
     obtain ⟨j,hj,rfl⟩:=List.getElem_of_mem hu'
     have:=x5 j (by omega)
     have e3:news.getD j undef=news[j]:=by simp [List.getD_eq_getElem?_getD,hj]
     rw [e3] at this
     rw [this];rfl
    have hrun:=run_storeCells_cells (P:=P) bb n news 0 w (fun j hj=>by
     rw [Nat.add_zero,(hcell (n+j) (by omega)).1];rfl) (fun j hj=>by
     rw [Nat.add_zero];exact (hcell (n+j) (by omega)).2) hone
    rw [Nat.add_zero] at hrun
    obtain ⟨zs,z1,z2,z3⟩:=setCells_row bb news n w ys E fr g1 (by omega)
    obtain ⟨r1,r2,r3⟩:=setCells_rest bb news n w
    have hsw:=Sim.swap (w':=w.setCells bb n news) hs (e1:=.ba E (.slice (some ⟨bb,0,none⟩) (n+xs.length) cap) (l++xs)) r1 r2 r3 (by rw [setCells_size];exact Nat.le_refl _)
     (fun k hk hn=>setCells_other bb _ _ _ k fun e=>hn e) (fun q hq hn=>World.cell?_setCells_out bb _ _ _ q fun e1 e2=>absurd e1 hn)
     (fun k h=>.inl h) (fun q h=>.inl h) (fun hst=>⟨⟨rfl,rfl⟩,by rw [List.length_append];omega,hfit,hcz,zs,fr,z1,g2,by rw [z2];exact g3,fun k hk=>by
       rw [z3,app_getD]
       rw [List.length_append] at hk
       by_cases hkc:k<l.length
       · rw [if_neg (by omega),if_pos hkc];exact g4 k hkc
       · rw [if_pos (by omega),if_neg hkc,hnl]
         exact x5 (k - l.length) (by omega)⟩)
    have hle:(l++xs).length=n+xs.length:=by rw [List.length_append];omega
    refine ⟨_,_, .ar (.slice (some ⟨bb,0,none⟩) (n+xs.length) cap) (n+xs.length),_,?_,hsw, .ar _ _ _ hfit (fun h=>nomatch h),by rw [<-hle];exact hk _⟩
    unfold execOp
    rw [hop]
    have hadd:(⟨bb,0,none⟩:Addr).add n=⟨bb,n,none⟩:=by rw [addr_add _ _ rfl];simp
    simp [resolve,invoke,Go.builtin,Builtin.append_,hvv,run_underlying hu,run_underlying hdx,hm,hEsz,x1,x2,hfit,hadd,hrun]
 · have hneed:cap<n+xs.length:=by omega
   have hgrow:=growslice_fits (bytes:=1) hneed (by omega)
   obtain ⟨i,d',hi,_,_,_,hby',hz⟩:=ty_info (t:=E) rfl (by rw [hA1];decide) (by rw [hA1];decide)
   rw [hby] at hby'
   cases hzz:i.zero with
   | none=>rw [hzz,hz0] at hz;simp at hz
   | some z =>
    obtain ⟨zr1,zr2⟩:=zero_rel (P:=P) (S:=stable w (L1 ++ .ba E (.slice base n cap) l::L2)) (w:=w) hi hzz hz
    have hzr:∀ w,(zeroValue E).run P w = .ok z w:=fun w=>by simp [zeroValue,typeInfo,program,Sem.run,hi,hzz]
    have hti:∀ w,(typeInfo E).run P w = .ok i w:=fun w=>by simp [typeInfo,program,Sem.run,hi]
    have hold:∃ olds:List Value,(Builtin.firstCells 1 n (.slice base n cap)).run P w.drew = .ok olds.toArray w.drew/\olds.length=n/\∀ j,j<n->olds.getD j undef = .int .u8 (((l.getD j 0).toNat:Nat):Int):=by
     cases base with
     | none =>
      obtain ⟨t1,t2,t3⟩:=hholds
      subst t1
      exact ⟨[],by simp [Builtin.firstCells],by simp,fun i hi=>by simp at hi⟩
     | some b =>
      obtain ⟨⟨s0,s1⟩,_,hnc,hcz,ys,fr,g1,g2,g3,g4⟩:=hholds
      refine ⟨(List.range n).map fun j=>ys.getD j undef,?_,by simp,fun j hj=>by simpa [List.getD_eq_getElem?_getD,hj] using g4 j (by omega)⟩
      refine run_firstCells_some (P:=P) w.drew 1 n b n cap _ (by simp) fun j u hj=>?_
      have hj':j<n:=by
       have:=(List.getElem?_eq_some_iff.1 hj).1
       simpa using this
      rw [addr_add b j s1,s0,Nat.zero_add]
      rw [List.getElem?_map] at hj
      simp [hj'] at hj
      rw [World.cell?_drew,<-hj]
      have hjs:j<ys.size:=by omega
      simp [World.cell?,g1,Array.getD_eq_getD_getElem?,hjs]
    obtain ⟨olds,o1,o2,o3⟩:=hold
    have hdr:=hs.drew
    obtain ⟨_,news',x2',x3',x4'⟩:=src_run (P:=P) (fun q (hq:stable w.drew _ q)=>hq.1) (hdr.2.rel (hr x (by simp [hop,Op.operands,Call.operands]))) hfx hxu
    have x5':=news_u8 x4'
    rw [List.length_map] at x2' x3'
    rw [Nat.mul_one] at x3'
    have hge:=grownCap_ge w (n+xs.length) cap E
    generalize hcapn:grownCap w (n+xs.length) cap E=newCap at *
    have hrest:=size_zeroCells z.cells (newCap - (n+xs.length))
    generalize hrs:Builtin.zeroCells z.cells (newCap - (n+xs.length))=rest at *
    have hzc:z.cells.size=1:=zr1.trans (by rw [hz0];rfl)
    have hsize:(olds.toArray++news'.toArray++rest).size=newCap:=by
     simp only [Array.size_append,List.size_toArray,o2,x3',hrest,hzc,Nat.mul_one]
     omega
    have hv1:∀ j,j<n->(olds.toArray++news'.toArray++rest).getD j undef=olds.getD j undef:=fun j hj=>by
     simp only [Array.getD_eq_getD_getElem?,List.getD_eq_getElem?_getD]
     rw [Array.append_assoc,Array.getElem?_append_left (by simp;omega)]
     simp
    have hv2:∀ j,j<xs.length->(olds.toArray++news'.toArray++rest).getD (n+j) undef=news'.getD j undef:=fun j hj=>by
     simp only [Array.getD_eq_getD_getElem?,List.getD_eq_getElem?_getD]
     rw [Array.append_assoc,Array.getElem?_append_right (by simp;omega),Array.getElem?_append_left (by simp;omega)]
     simp [o2]
    generalize hA:olds.toArray++news'.toArray++rest=row at *
    have hle:(l++xs).length=n+xs.length:=by rw [List.length_append];omega
    have hsw:=Sim.swap (w':=w.drew.alloc (.cells row E)) hs (e1:=.ba E (.slice (some ⟨w.heap.size,0,none⟩) (n+xs.length) newCap) (l++xs)) rfl rfl rfl (by simp) (fun b hb _=>Below.heap_alloc w.drew _ b hb)
     (fun q hq _=>by
       obtain ⟨u,hu⟩:=Option.isSome_iff_exists.1 hq
       exact World.cell?_of_block (w:=w) (Below.heap_alloc w.drew _ q.block (World.block_lt_of_cell? w q hu)))
     (fun b h=>.inr (Nat.le_of_eq h.symm)) (fun q h=>.inr (Nat.le_of_eq h.symm)) (fun hst=>⟨⟨rfl,rfl⟩,hle.symm,hge,by omega,row,(0,0),heap_alloc_new w.drew _,rfl,hsize,fun k hk=>by
       rw [app_getD]
       rw [hle] at hk
       by_cases hkc:k<l.length
       · rw [if_pos hkc,hv1 k (by omega)];exact o3 k (by omega)
       · have e:=hv2 (k - l.length) (by omega)
         rw [show n+(k - l.length)=k by omega] at e
         rw [if_neg hkc,e]
         exact x5' (k - l.length) (by omega)⟩)
    refine ⟨.slice (some ⟨w.heap.size,0,none⟩) (n+xs.length) newCap,w.drew.alloc (.cells row E), .ar _ (n+xs.length),_,?_,hsw, .ar _ _ _ hge (fun h=>nomatch h),by rw [<-hle];exact hk _⟩
    unfold execOp
    rw [hop]
    have hg2:¬ 281474976710656<Builtin.nextslicecap (n+xs.length) cap * i.bytes:=by rw [<-hby'];omega
    have hzd:(zeroValue E).run P w.drew = .ok z w.drew:=hzr w.drew
    have htd:(typeInfo E).run P w.drew = .ok i w.drew:=hti w.drew
    have hask:(askRoom (newCap * i.bytes)).run P w.drew = .ok () w.drew:=by unfold askRoom;split<;>rfl
    unfold grownCap at hcapn
    simp [resolve,invoke,Go.builtin,Builtin.append_,hvv,run_underlying hu,run_underlying hdx,hm,hEsz,x1,hfit,hti,hg2,Question.forced,hcapn,hask,o1,x2',hzd,hrs,newRow]
    rw [if_neg fun h=>by have:=h.1;omega,<-hA,Array.append_assoc]
end
def selfP (b off:Nat) (u:Bool):V:=.raw (.pointer (if u=true then some ⟨b,off,none⟩ else none))
theorem lay_samB {cs:List V} {off:Nat} {x:V} (h:cs.getD off .any=x) (hl:off<cs.length):layV cs off [x]=cs:=by
 subst h
 unfold layV
 rw [List.getD_eq_getElem?_getD,List.getElem?_eq_getElem hl]
 simp
section
variable {P:Program} {ρ : Go.Shelf.Ren}
theorem DC.ccheck (L:Lays.n240 P ρ) (he:enterB P (ρ.f 240)=true) (hsz:(P.info? (ρ.t 72)).map (·.size)=some 2) (T:TypeId) (b off:Nat) (cs:List V) (u:Bool) (F:Own)
  (h:cs.getD off .any=selfP b off u/\off<cs.length/\liesAt P P.depth T (cs.length / P.cellsOf T) off (ρ.t 72) 1=true) :
  DC P (ρ.f 240) [.raw (.pointer (some ⟨b,off,none⟩))] ([.tb T b cs]++F) fun d G=>d = .tup []/\G=[.tb T b (layV cs off [selfP b off true])]++F:=by
 obtain ⟨h1,h2,h3⟩:=h
 refine ⟨he,fun xs w hs hz hr=>?_⟩
 have h0:=hr 0 (by simp)
 obtain ⟨x0,rfl⟩:=one_ofB hz
 have e0:x0 = .pointer (some ⟨b,off,none⟩):=raw_val (S:=stable w ([.tb T b cs]++F)) (w:=w) h0
 subst e0
 obtain ⟨ys,fr,g1,g2,g3,g4,g5⟩:=tb_of (L1:=[]) hs
 obtain ⟨c1,c2⟩:=g5 off h2
 have hv:=g4 off h2
 rw [h1] at hv
 have hv:=raw_val hv
 cases u with
 | true =>
  rw [hv] at c1
  refine (copyCheck_used L hsz b off w c1).mono ?_
  rintro e w' ⟨rfl,rfl⟩
  rw [lay_samB h1 h2]
  exact ⟨_, .tup [],_,rfl,hs, .refl _ _, .tup _ _ rfl (fun k hk=>absurd hk (by simp)),rfl,rfl⟩
 | false =>
  rw [hv] at c1
  refine (copyCheck_fresh L hsz b off w c1 (T:=T) (k:=ys.size) (by simp [World.shape?,g1]) (by omega) (by rw [g3];exact h3) c2).mono ?_
  rintro e w' ⟨rfl,rfl⟩
  obtain ⟨zs,y1,y2,y3⟩:=setCells_row b [.pointer (some ⟨b,off,none⟩)] off w ys T fr g1 (by simp;omega)
  obtain ⟨r1,r2,r3⟩:=setCells_rest b [.pointer (some ⟨b,off,none⟩)] off w
  obtain ⟨l1,l2⟩:=lay_at cs [selfP b off true] off (by simp;omega)
  have sw:=Sim.swap (w':=w.setCells b off [.pointer (some ⟨b,off,none⟩)]) (L1:=[]) hs (e1:=.tb T b (layV cs off [selfP b off true])) r1 r2 r3 (by rw [setCells_size];exact Nat.le_refl _) (fun k hk hn=>setCells_other b _ _ _ k fun e=>hn e)
   (fun q hq hn=>World.cell?_setCells_out b _ _ _ q fun e _=>absurd e hn) (fun k h=>.inl h) (fun q h=>.inl h) (fun hst=>by
     refine ⟨zs,fr,y1,by rw [y2];exact g2,by rw [y2,g3,l1],fun k hk=>?_⟩
     rw [y3 k,l2 k]
     rw [l1] at hk
     by_cases hk':off<=k/\k<off+1
     · rw [if_pos (by simpa using hk'),if_pos (by simpa using hk'),show k - off=0 by omega]
       exact .raw _
     · rw [if_neg (by simpa using hk'),if_neg (by simpa using hk')]
       exact (g4 k hk).mono hst)
  exact ⟨_, .tup [],_,rfl,sw.1,sw.2, .tup _ _ rfl (fun k hk=>absurd hk (by simp)),rfl,rfl⟩
theorem DC.bstring (L:Lays.n169 P ρ) (X:Builder.Extra P ρ) (he:enterB P (ρ.f 169)=true) (T:TypeId) (b off:Nat) (cs:List V) (v:Value) (l:List UInt8) (F:Own)
  (h:cs.getD (off+1) .any = .ar v l.length/\off+1<cs.length/\l.length<=140737488355328) :
  DC P (ρ.f 169) [.raw (.pointer (some ⟨b,off,none⟩))] ([.tb T b cs, .ba (ρ.t 5) v l]++F) fun d G=>d = .str l/\G=[.tb T b cs]++F:=by
 obtain ⟨h1,h2,h3⟩:=h
 refine ⟨he,fun xs w hs hz hr=>?_⟩
 have h0:=hr 0 (by simp)
 obtain ⟨x0,rfl⟩:=one_ofB hz
 have e0:x0 = .pointer (some ⟨b,off,none⟩):=raw_val (S:=stable w ([.tb T b cs, .ba (ρ.t 5) v l]++F)) (w:=w) h0
 subst e0
 obtain ⟨ys,fr,g1,g2,g3,g4,g5⟩:=tb_of (L1:=[]) hs
 obtain ⟨c1,c2⟩:=g5 (off+1) h2
 have hv:=g4 (off+1) h2
 rw [h1] at hv
 generalize ys.getD (off+1) undef=y at hv c1
 generalize hn:l.length=n at hv h3
 cases hv with
 | ar a _ cap hcap hnil =>
 have hh:=hs.holds (.ba (ρ.t 5) (.slice a n cap) l) (by simp)
 have bsl:(⟨l.toArray⟩:ByteArray)=bs l:=rfl
 have last:∀ w2,(Sim w2 (.tb T b cs::F)/\Ext w ([.tb T b cs, .ba (ρ.t 5) (.slice a n cap) l]++F) w2 (.tb T b cs::F))->∀ (e:Ending) (w':World),(e = .returned (.string ⟨l.toArray⟩)/\w'=w2) ->
   ∃ v d H',e = .returned v/\Sim w' H'/\Ext w ([.tb T b cs, .ba (ρ.t 5) (.slice a n cap) l]++F) w' H'/\R (stable w' H') w' v d/\d = .str l/\H'=[.tb T b cs]++F:=by
  rintro w2 ⟨k1,k2⟩ e w' ⟨rfl,rfl⟩
  exact ⟨_,_,_,rfl,k1,k2, .str l,rfl,rfl⟩
 have drew:Sim w.drew (.tb T b cs::F)/\Ext w ([.tb T b cs, .ba (ρ.t 5) (.slice a n cap) l]++F) w.drew (.tb T b cs::F):=by
  obtain ⟨d1,d2⟩:=hs.drew
  exact ⟨d1.drop (by simp),d2.trans (Ext.drop (by simp +contextual))⟩
 have t5:P.underlying (ρ.t 5)=some (.int .u8):=X.t5
 cases a with
 | none =>
  obtain ⟨q1,q2,q3⟩:=hh
  subst q1;subst q2;subst q3
  exact (string_atB L t5 b off 0 [] none 0 none w w w.drew c1 c1 rfl rfl (Any.unsafeString_none L X w.drew none)).mono (last _ drew)
 | some p =>
  obtain ⟨⟨s0,s1⟩,q1,q2,q3,zs,fz,z1,z2,z3,z4⟩:=hh
  obtain ⟨g,po,ps⟩:=p
  simp only at s0 s1
  subst s0
  subst s1
  simp only at z1
  have hSD:(Builtin.unsafeSliceData_ #[(ρ.t 37)] (ρ.t 127) #[.slice (some ⟨g,0,none⟩) n cap]).run P w.drew = .ok (.pointer (some ⟨g,0,none⟩)) w.drew:=Lib.run_unsafeSliceData_row _ _ _ _ _ _ q3
  by_cases hl:l=[]
  · subst hl
    have hn0:n=0:=hn.symm
    subst hn0
    exact (string_atB L t5 b off 0 [] (some ⟨g,0,none⟩) cap (some ⟨g,0,none⟩) w w w.drew c1 c1 hSD rfl (Any.unsafeString_none L X w.drew _)).mono (last _ drew)
  · have hUS:(Builtin.unsafeString_ #[(ρ.t 127),(ρ.t 3)] (ρ.t 9) #[.pointer (some ⟨g,0,none⟩), .int .i64 n]).run P w.drew = .ok (.string ⟨l.toArray⟩) (w.drew.freeze ⟨g,0,none⟩ n):=by
     rw [<-hn]
     refine Lib.run_unsafeString_row w.drew (ρ.t 127) (ρ.t 3) (ρ.t 9) (ρ.t 5) L.t127 X.cellsByte g zs.size (by have hg':w.drew.heap[g]? = some (.cells zs (ρ.t 5) fz):=z1;simp [World.shape?,hg']) l hl (by omega) (by omega) ?_
     intro j x hx
     have hj:j<l.length:=(List.getElem?_eq_some_iff.1 hx).1
     have e1:=z4 j hj
     have e2:l.getD j 0=x:=by rw [List.getD_eq_getElem?_getD,hx];rfl
     rw [e2] at e1
     have hjs:j<zs.size:=by omega
     rw [addr_mk,Nat.zero_add,World.cell?_drew]
     rw [<-e1]
     simp [World.cell?,z1,Array.getD_eq_getD_getElem?,hjs]
    refine (string_atB L t5 b off n l (some ⟨g,0,none⟩) cap (some ⟨g,0,none⟩) w w _ c1 c1 hSD rfl hUS).mono (last _ ?_)
    have sw:=Sim.swap (w':=w.drew.freeze ⟨g,0,none⟩ n) (L1:=[.tb T b cs]) (L2:=F) (e0:=.ba (ρ.t 5) (.slice (some ⟨g,0,none⟩) n cap) l) (e1:=.tail 1 (.slice none 0 0)) hs (by unfold World.freeze;split<;>rfl) (by unfold World.freeze;split<;>rfl) (by unfold World.freeze;split<;>rfl) (by rw [size_freeze];exact Nat.le_refl _)
     (fun k hk hn'=>heap_freeze_ne w.drew _ _ _ hn') (fun q hq hn'=>cell_freeze w.drew _ _ _) (fun k h=>h.elim) (fun q h=>h.elim) (fun _=>⟨rfl,rfl⟩) (by rw [drawn_freeze];exact Nat.le_succ _)
    exact ⟨sw.1.drop (by simp),sw.2.trans (Ext.drop (by simp +contextual))⟩
theorem DC.join (L:Lays.n156 P ρ) (X:Builder.Extra P ρ) (he:enterB P (ρ.f 156)=true) (ws:List (List UInt8)) (sep:List UInt8) (F:Own) (h:ws.length<=1000000/\(Lib.join ws sep).length<=140737488355328) :
  DC P (ρ.f 156) [.sl (ws.map V.str), .str sep] ([loose]++F) fun d G=>d = .str (Lib.join ws sep)/\G=[loose]++F:=by
 obtain ⟨h1,h2⟩:=h
 refine ⟨he,fun xs w hs hz hr=>?_⟩
 have h0:=hr 0 (by simp)
 have h1':=hr 1 (by simp)
 obtain ⟨x0,x1,rfl⟩:∃ a b,xs = #[a,b]:=by
  obtain ⟨l⟩:=xs
  match l,hz with
  | [a,b],_=>exact ⟨a,b,rfl⟩
 have h0:R (stable w ([loose]++F)) w x0 (.sl (ws.map V.str)):=h0
 have e1:x1 = .string (bs sep):=by
  have h1':R (stable w ([loose]++F)) w x1 (.str sep):=h1'
  cases h1';rfl
 subst e1
 obtain ⟨a,cap,sz,rfl,hc,hn,b1,b2,b3,b4⟩:=h0.slc
 rw [List.length_map] at hc b2 b3 b4 ⊢
 have bsb:∀ x:List UInt8,(bs x).data.toList=x:=fun x=>by simp [bs]
 have fin:∀ (e:Ending) (w':World),(e = .returned (.string ⟨(Lib.join ws sep).toArray⟩)/\Below w.heap.size w w') ->
   ∃ v d H',e = .returned v/\Sim w' H'/\Ext w ([loose]++F) w' H'/\R (stable w' H') w' v d/\d = .str (Lib.join ws sep)/\H'=[loose]++F:=by
  rintro e w' ⟨rfl,hb⟩
  obtain ⟨k1,k2⟩:=hs.moreL (by simp) hb
  exact ⟨_,_,_,rfl,k1,k2, .str _,rfl,rfl⟩
 by_cases hw:ws=[]
 · subst hw
   refine (Any.strings_Join_none L X a cap (bs sep) w).mono ?_
   rintro e w' ⟨rfl,rfl⟩
   exact fin _ _ ⟨rfl,Below.refl _ _⟩
 · cases a with
   | none=>exact absurd (List.map_eq_nil_iff.1 (hn rfl)) hw
   | some p =>
    have hsp:=b1 p rfl (fun e=>hw (List.map_eq_nil_iff.1 e))
    obtain ⟨bk,o,ps⟩:=p
    simp only at hsp
    subst hsp
    have hsz:sz=1:=by
     have hpos:0<ws.length:=List.length_pos_iff.2 hw
     have:=b2 0 hpos
     rw [<-this]
     simp [List.getD_eq_getElem?_getD,hpos];rfl
    subst hsz
    have cel:∀ (j:Nat) x,(ws.map bs)[j]? = some x->w.cell? ⟨bk,o+j,none⟩=some (.string x):=fun j x hx=>by
     rw [List.getElem?_map] at hx
     cases hj:ws[j]? with
     | none=>rw [hj] at hx;simp at hx
     | some y =>
      rw [hj] at hx
      simp only [Option.map_some,Option.some.injEq] at hx
      subst hx
      have hlt:j<ws.length:=(List.getElem?_eq_some_iff.1 hj).1
      have s3:=(b3 ⟨bk,o,none⟩ j 0 rfl hlt (by decide)).1
      have s4:=b4 ⟨bk,o,none⟩ j 0 rfl hlt (by decide)
      simp only [Nat.mul_one,Nat.add_zero] at s3 s4
      have e2:((ws.map V.str).getD j .any).cell 0 = .str y:=by
       rw [List.getD_eq_getElem?_getD,List.getElem?_map,hj];rfl
      rw [e2] at s4
      unfold cellAt at s4
      cases hcc:w.cell? ⟨bk,o+j,none⟩ with
      | none=>rw [hcc] at s3;cases s3
      | some u =>
       rw [hcc] at s4
       have s4:R (stable w ([loose]++F)) w u (.str y):=s4
       cases s4;rfl
    have hbk:bk<w.heap.size:=(b3 ⟨bk,o,none⟩ 0 0 rfl (List.length_pos_iff.2 hw) (by decide)).lt
    have e3:(ws.map bs).map (·.data.toList)=ws:=by rw [List.map_map];exact (List.map_congr_left fun x _=>bsb x).trans (List.map_id ws)
    have:=Any.strings_Join L X bk o cap (ws.map bs) (bs sep) w cel hbk (by rw [List.length_map];omega) (by rw [List.length_map];exact hc) (by rw [e3,bsb];exact h2)
    rw [e3,bsb,List.length_map] at this
    exact this.mono fin
def pow10O (T:TypeId) (fr:Nat×Nat):Obj:=.cells ((Lib.pow10Tab.map fun z=>Value.int .u64 z).toArray) T fr
theorem DC.itoa (L:LaysM.n171 P ρ) (he:enterB P (ρ.f 171)=true) {g:Nat} (hg:P.globalNamed "internal/strconv.uint64pow10" = some g) (T:TypeId) (fr:Nat×Nat) (n:Int) (F:Own) (h : -9223372036854775808<=n/\n<=9223372036854775807) :
  DC P (ρ.f 171) [.int .i64 n] ([.row g (pow10O T fr)]++F) fun d G=>d = .str (Lib.itoa n)/\G=[.row g (pow10O T fr)]++F:=by
 refine ⟨he,fun xs w hs hz hr=>?_⟩
 have h0:=hr 0 (by simp)
 obtain ⟨x0,rfl⟩:=one_ofB hz
 have e0:x0 = .int .i64 n:=by
  have h0:R (stable w ([.row g (pow10O T fr)]++F)) w x0 (.int .i64 n):=h0
  cases h0;rfl
 subst e0
 have hh:w.heap[g]? = some (pow10O T fr):=hs.holds (.row g (pow10O T fr)) (by simp)
 have htab:Lib.TabIs P w "internal/strconv.uint64pow10" .u64 Lib.pow10Tab:=by
  unfold Lib.TabIs World.var?
  rw [hg]
  simp [hh,pow10O]
 refine (Any.strconv_Itoa L n h.1 h.2 w htab).mono ?_
 rintro e w' ⟨rfl,k,os,rfl⟩
 obtain ⟨k1,k2⟩:=hs.more (w':=Go.Sort.grow (w.drewN k) os) rfl rfl rfl (by simp [Go.Sort.grow,World.drewN]) (fun b hb=>by simp [Go.Sort.grow,World.drewN,Array.getElem?_append,hb]) (Nat.le_add_right _ _)
 exact ⟨_,_,_,rfl,k1,k2, .str _,rfl,rfl⟩
end
end
section
open Go.RowKit
set_option maxHeartbeats 4000000
set_option maxRecDepth 100000
attribute [local irreducible] DW SeqD DV DOp DC DVX
def hexL:List UInt8:=[48,49,50,51,52,53,54,55,56,57,97,98,99,100,101,102]
theorem hex_hi (c:UInt8):0<=(c.toNat:Int).fdiv (2 ^ min 4 IntKind.u8.bits)/\(c.toNat:Int).fdiv (2 ^ min 4 IntKind.u8.bits)<16:=by
 have hc:=c.toNat_lt
 have e:(2:Int) ^ min 4 IntKind.u8.bits=16:=by decide
 rw [e,Int.fdiv_eq_ediv_of_nonneg _ (by decide)]
 omega
theorem hex_lo (c:UInt8):0<=IntKind.u8.wrap ((BitVec.ofInt IntKind.u8.bits (c.toNat:Int) &&& BitVec.ofInt IntKind.u8.bits 15).toNat:Int)/\IntKind.u8.wrap ((BitVec.ofInt IntKind.u8.bits (c.toNat:Int) &&& BitVec.ofInt IntKind.u8.bits 15).toNat:Int)<16:=by
 have h:(BitVec.ofInt IntKind.u8.bits (c.toNat:Int) &&& BitVec.ofInt IntKind.u8.bits 15).toNat<=15:=by
  rw [BitVec.toNat_and]
  exact Nat.le_trans Nat.and_le_right (by decide)
 simp [IntKind.wrap,IntKind.bits,IntKind.signed] at h ⊢
 omega
def hexA (c:UInt8):UInt8:=hexL.getD ((c.toNat:Int).fdiv (2 ^ min 4 IntKind.u8.bits)).toNat 0
def hexB (c:UInt8):UInt8:=hexL.getD (IntKind.u8.wrap ((BitVec.ofInt IntKind.u8.bits (c.toNat:Int) &&& BitVec.ofInt IntKind.u8.bits 15).toNat:Int)).toNat 0
def hexK (t:List UInt8) (k:Nat):List UInt8:=((List.range k).map fun i=>[hexA (t.getD i 0),hexB (t.getD i 0)]).flatten
theorem hexK_0 (t:List UInt8):hexK t 0=[]:=rfl
theorem hexK_more (t:List UInt8) (k:Nat):hexK t (k+1)=hexK t k++[hexA (t.getD k 0),hexB (t.getD k 0)]:=by simp [hexK,List.range_succ]
theorem hexK_len (t:List UInt8) (k:Nat):(hexK t k).length=2 * k:=by
 induction k with
 | zero=>rfl
 | succ k ih=>rw [hexK_more,List.length_append,ih];simp only [List.length_cons,List.length_nil];omega
end
section
open Go.RowKit
structure Elm (S:Addr->Prop) (w:World) (k:Nat) {T:Type} (encV:T->V) (ok:T->Prop) where
 t:T
 vs:List Value
 len:vs.length=k
 one:∀ v∈vs,v.oneCell'=true
 rel:∀ j,j<k->R S w (vs.getD j undef) ((encV t).cell j)
 good:ok t
theorem two_of {xs:Array Value} (h:xs.size=2):∃ a b,xs = #[a,b]:=by
 obtain ⟨l⟩:=xs
 match l,h with
 | [a,b],_=>exact ⟨a,b,rfl⟩
theorem zero_of {xs:Array Value} (h:xs.size=0):xs = #[]:=by
 obtain ⟨l⟩:=xs
 match l,h with
 | [],_=>rfl
theorem sim_nil (w:World):Sim w []:=⟨(fun _ h=>nomatch h),List.Pairwise.nil,List.Pairwise.nil⟩
theorem grown_of {w w':World} {H':Own} (h:Ext w [] w' H'):∃ q os',w'=Go.Sort.grow (w.drewN q) os':=by
 refine ⟨w'.drawn - w.drawn,w'.heap.extract w.heap.size w'.heap.size,?_⟩
 have hz:=h.size
 have hd:=(h.drawn (by simp)).2
 have hh:w'.heap=w.heap++w'.heap.extract w.heap.size w'.heap.size:=by
  apply Array.ext_getElem?
  intro i
  by_cases hi:i<w.heap.size
  · rw [Array.getElem?_append_left hi]
    exact (h.full i hi (by simp)).1
  · rw [Array.getElem?_append_right (by omega),Array.getElem?_extract]
    by_cases hi2:i<w'.heap.size
    · rw [if_pos (by omega)]
      congr 1;omega
    · rw [if_neg (by omega)]
      exact Array.getElem?_eq_none (by omega)
 obtain ⟨hp,tp,dr,o,ou⟩:=w'
 obtain ⟨hp0,tp0,dr0,o0,ou0⟩:=w
 have e1:=h.os;have e2:=h.tape;have e3:=h.output
 simp only at e1 e2 e3 hh hd
 subst e1 e2 e3
 unfold Go.Sort.grow World.drewN
 simp only [World.mk.injEq,true_and,and_true]
 exact ⟨hh,by omega⟩
end
section
open Go.RowKit
def keyT (P:Program) (t:TypeId):Option (List Nat):=leaf P 6 t
def kindS:List Nat->List V->Prop
 | [],[]=>True
 | k::ks,a::l=>(match a with
  | .int _ _=>k=2
  | .str _=>k=3
  | .bool _=>k=1
  | _=>False)/\kindS ks l
 | _,_=>False
theorem kindS_len:∀ {ks:List Nat} {l:List V},kindS ks l->l.length=ks.length
 | [],[],_=>rfl
 | _::ks,_::l,h=>by simp [kindS_len h.2]
 | [],_::_,h=>h.elim
 | _::_,[],h=>h.elim
theorem kindS_of:∀ {ks:List Nat} {l m:List V},eqLS ks l m->kindS ks l
 | [],[],[],_=>trivial
 | k::ks,a::l,b::m,h=>by
  refine ⟨?_,kindS_of h.2⟩
  have h:=h.1
  cases a<;>cases b<;>first | exact h.elim | exact h.1 | exact h
 | [],_::_,_,h=>h.elim
 | [],[],_::_,h=>h.elim
 | _::_,[],_,h=>h.elim
 | _::_,_::_,[],h=>h.elim
theorem kindS_app:∀ {ks ks':List Nat} {l:List V},kindS (ks++ks') l->kindS ks (l.take ks.length)/\kindS ks' (l.drop ks.length)
 | [],ks',l,h=>⟨by simp [kindS],by simpa using h⟩
 | k::ks,ks',[],h=>h.elim
 | k::ks,ks',a::l,h=>by
  obtain ⟨h1,h2⟩:=kindS_app (ks:=ks) (l:=l) h.2
  exact ⟨⟨h.1,h1⟩,h2⟩
section
variable {P:Program}
def CkOk (P:Program) (D:Nat) (t:TypeId) (ks:List Nat):Prop :=
 ∀ (em:Bool) (S:Addr->Prop) (w:World) (x:Value) (a:V),R S w x a->((ty P t).agg=true->a = .agg a.cs)->((ty P t).agg=false->a.cs=[a])->kindS ks a.cs->(Instr.checkKey em D t x).run P w = .ok () w
theorem ckFields_run {em:Bool} {D d:Nat} (ih:∀ t ks,leaf P d t=some ks->CkOk P D t ks) {S:Addr->Prop} {w:World} {xs:Array Value} {cs:List V} (hx:xs.size=cs.length) (hxr:∀ k,k<cs.length->R S w (xs.getD k undef) (cs.getD k .any)) :
  ∀ (fs:List Field) (off:Nat) (ks:List Nat),off<=cs.length->leafs P (leaf P d) fs off=some ks->kindS ks (cs.drop off) ->
   (forIn fs PUnit.unit (fun (f:Field) (_:PUnit)=>(do
     if f.name ≠ "_" then Instr.checkKey em D f.type (<-part f.type xs f.offset)
     pure (ForInStep.yield PUnit.unit):Sem (ForInStep PUnit))):Sem PUnit).run P w = .ok PUnit.unit w
 | [],off,ks,_,_,_=>by simp
 | f::fs,off,ks,hoc,h,he=>by
  unfold leafs at h
  split at h
  · rename_i hn
    obtain ⟨hn,ho⟩:=hn
    split at h
    · rename_i k1 hk1
      cases h2:leafs P (leaf P d) fs (off+k1.length) with
      | none=>rw [h2] at h;cases h
      | some k2 =>
       rw [h2] at h
       have hk:k1++k2=ks:=by simpa using h
       subst hk
       have l1:=kindS_len he
       simp only [List.length_drop,List.length_append] at l1
       obtain ⟨e1,e2⟩:=kindS_app he
       obtain ⟨t0,t1,t2,t3⟩:=leaf_ty hk1
       have s1:partS (ty P f.type) cs f.offset:=by
        refine ⟨t0,t1,?_⟩
        rw [ho]
        split
        · rename_i ha;have:=t2 ha
          rcases Nat.eq_zero_or_pos k1.length with h0 | h0<;>rcases Nat.eq_zero_or_pos k2.length with h1 | h1<;>omega
        · rename_i ha;have:=t3 (by simpa using ha);omega
       obtain ⟨u,u1,u2⟩:=part_run (P:=P) hx hxr s1
       have hpart:((ty P f.type).agg=true->(partV (ty P f.type) cs f.offset) = .agg (partV (ty P f.type) cs f.offset).cs)/\((ty P f.type).agg=false->(partV (ty P f.type) cs f.offset).cs=[partV (ty P f.type) cs f.offset])/\(partV (ty P f.type) cs f.offset).cs=(cs.drop off).take k1.length:=by
        unfold partV
        rw [ho]
        cases ha:(ty P f.type).agg with
        | true=>simp [V.cs,t2 ha]
        | false =>
         have q1:=t3 ha
         have q2:off<cs.length:=by omega
         simp only [Bool.false_eq_true,if_false,false_implies,true_and,forall_const]
         have g1:cs.drop off=cs.getD off .any::cs.drop (off+1):=by rw [List.drop_eq_getElem_cons q2];simp [List.getD_eq_getElem?_getD,q2]
         obtain ⟨kk,hkk⟩:∃ kk,k1=[kk]:=List.length_eq_one_iff.1 q1
         subst hkk
         rw [g1] at e1 ⊢
         simp only [List.length_singleton,List.take_succ_cons,List.take_zero] at e1 ⊢
         have e1:=e1.1
         generalize cs.getD off .any=p at e1 ⊢
         cases p<;>first | exact e1.elim | exact ⟨rfl,rfl⟩
       have hq:=ih f.type k1 hk1 em S w u _ u2 hpart.1 hpart.2.1 (by rw [hpart.2.2];exact e1)
       have hr:=ckFields_run (em:=em) ih hx hxr fs (off+k1.length) k2 (by omega) h2 (by simpa [List.drop_drop] using e2)
       simp only [List.forIn_cons,Sem.run_bind,hn,ne_eq,not_false_eq_true,if_true,Result.andThen_ok,u1,hq,Sem.run_pure]
       exact hr
    · cases h
  · cases h
theorem ck_run:∀ (d:Nat) (t:TypeId) (ks:List Nat),leaf P d t=some ks->∀ D,d<=D->CkOk P D t ks
 | 0,_,_,h,_,_=>by cases h
 | d+1,t,ks,h,0,hD=>by omega
 | d+1,t,ks,h,D+1,hD=>by
  intro em S w x a hx hagg hflat he
  unfold leaf at h
  unfold Instr.checkKey
  split at h
  · rename_i hu;simp [run_underlying hu]
  · rename_i k' hu;simp [run_underlying hu]
  · rename_i hu;simp [run_underlying hu]
  · rename_i fs hu
    split at h
    · cases h
    · rename_i hn
      have hk:(ty P t).kind=6:=Decidable.byContradiction fun hk=>hn (.inr hk)
      have ha:=(ty_agg (P:=P) (t:=t) (by omega)).1 hk
      have e1:=hagg ha
      generalize a.cs=cs at *
      subst e1
      split at h
      · rename_i ks' hl
        split at h
        · injection h with h
          subst h
          cases hx with
          | agg xs _ hxn hxr =>
           simp only [Sem.run_bind,run_underlying hu,Result.andThen_ok]
           rw [<-Array.forIn_toList]
           have:=ckFields_run (em:=em) (D:=D) (fun t ks h=>ck_run d t ks h D (by omega)) hxn hxr fs.toList 0 _ (Nat.zero_le _) hl (by simpa using he)
           simp only [Sem.run_bind,this,Result.andThen_ok,Sem.run_pure] at this ⊢
        · cases h
      · cases h
  · cases h
end
def RM (S:Addr->Prop) (w:World):List MapEntry->List (V×V)->Prop
 | [],[]=>True
 | e::es,x::m=>(R S w e.key x.1/\R S w e.val x.2)/\RM S w es m
 | _,_=>False
theorem RM.of {S:Addr->Prop} {w:World}:∀ {es:List MapEntry} {m:List (V×V)},es.length=m.length->(∀ k,k<m.length->R S w (es.getD k default).key (m.getD k (.any, .any)).1/\R S w (es.getD k default).val (m.getD k (.any, .any)).2)->RM S w es m
 | [],[],_,_=>trivial
 | e::es,x::m,hn,h=>⟨h 0 (by simp),RM.of (by simpa using hn) fun k hk=>by simpa using h (k+1) (by simpa using hk)⟩
 | [],_::_,hn,_=>by simp at hn
 | _::_,[],hn,_=>by simp at hn
theorem RM.back {S:Addr->Prop} {w:World}:∀ {es:List MapEntry} {m:List (V×V)},RM S w es m->es.length=m.length/\∀ k,k<m.length->R S w (es.getD k default).key (m.getD k (.any, .any)).1/\R S w (es.getD k default).val (m.getD k (.any, .any)).2
 | [],[],_=>⟨rfl,fun k hk=>absurd hk (Nat.not_lt_zero _)⟩
 | e::es,x::m,⟨h1,h3⟩=>by
  obtain ⟨g1,g2⟩:=RM.back h3
  refine ⟨by simp [g1],fun k hk=>?_⟩
  cases k with
  | zero=>exact h1
  | succ k=>simpa using g2 k (by simpa using hk)
 | [],_::_,h=>h.elim
 | _::_,[],h=>h.elim
theorem RM.mono {S S':Addr->Prop} {w w':World} (hs:∀ a,S a->S' a/\w'.cell? a=w.cell? a):∀ {es:List MapEntry} {m:List (V×V)},RM S w es m->RM S' w' es m
 | [],[],_=>trivial
 | e::es,x::m,⟨h1,h3⟩=>⟨⟨h1.1.mono hs,h1.2.mono hs⟩,RM.mono hs h3⟩
 | [],_::_,h=>h.elim
 | _::_,[],h=>h.elim
def lookV (kd:V):List (V×V)->Option V
 | x::m=>if eqL kd.cs x.1.cs=true then some x.2 else lookV kd m
 | []=>none
def updV (kd vd:V):List (V×V)->List (V×V)
 | x::m=>if eqL kd.cs x.1.cs=true then (x.1,vd)::m else x::updV kd vd m
 | []=>[(kd,vd)]
def dropV (kd:V):List (V×V)->List (V×V)
 | x::m=>if eqL kd.cs x.1.cs=true then m else x::dropV kd m
 | []=>[]
def keysS (ks:List Nat) (kd:V) (m:List (V×V)):Prop:=eqLS ks kd.cs kd.cs/\∀ x∈m,eqLS ks kd.cs x.1.cs
def shapeS (P:Program) (t:TypeId) (m:List (V×V)) (kd:V):Prop:=((ty P t).agg=true->kd = .agg kd.cs/\∀ x∈m,x.1 = .agg x.1.cs)/\((ty P t).agg=false->kd.cs=[kd]/\∀ x∈m,x.1.cs=[x.1])
def KeyS (P:Program) (t:TypeId) (kd:V) (m:List (V×V)):Prop:=(ty P t).kind=8/\(match keyT P (ty P t).key with
 | some ks=>keysS ks kd m
 | none=>False)/\shapeS P (ty P t).key m kd
def placeE (kd:V):List (V×V)->Nat->Option Nat
 | x::m,i=>if eqL kd.cs x.1.cs=true then some i else placeE kd m (i+1)
 | [],_=>none
section
variable {P:Program}
theorem find_run {kt:TypeId} {ks:List Nat} (ht:keyT P kt=some ks) {S:Addr->Prop} {w:World} {k:Value} {kd:V} (hk:R S w k kd):∀ (es:List MapEntry) (m:List (V×V)),RM S w es m->(∀ x∈m,eqLS ks kd.cs x.1.cs)->((ty P kt).agg=true->kd = .agg kd.cs/\∀ x∈m,x.1 = .agg x.1.cs)->((ty P kt).agg=false->kd.cs=[kd]/\∀ x∈m,x.1.cs=[x.1])->∀ i,
  (Instr.findAsking kt k es i).run P w = .ok ((placeE kd m i).map fun j=>(j,(es.getD (j - i) default).val)) w/\(∀ j,placeE kd m i=some j->i<=j)
 | [],[],_,_,_,_,i=>by simp [Instr.findAsking,placeE]
 | e::es,x::m,h,he,ha,hf,i=>by
  have hq:=eq_run (P:=P) 6 kt ks ht 9999 (by decide) S w k e.key kd x.1 hk h.1.1 (fun h'=>⟨(ha h').1,(ha h').2 x (by simp)⟩) (fun h'=>⟨(hf h').1,(hf h').2 x (by simp)⟩) (he x (by simp))
  have hq':(Op.equal kt k e.key).run P w = .ok (eqL kd.cs x.1.cs) w:=eq_run (P:=P) 6 kt ks ht 10000 (by decide) S w k e.key kd x.1 hk h.1.1 (fun h'=>⟨(ha h').1,(ha h').2 x (by simp)⟩) (fun h'=>⟨(hf h').1,(hf h').2 x (by simp)⟩) (he x (by simp))
  unfold Instr.findAsking placeE
  cases hb:eqL kd.cs x.1.cs with
  | true =>
   rw [hb] at hq'
   refine ⟨by simp [hq'],fun j hj=>?_⟩
   simp at hj;omega
  | false =>
   rw [hb] at hq'
   obtain ⟨r1,r2⟩:=find_run ht hk es m h.2 (fun y hy=>he y (by simp [hy])) (fun h'=>⟨(ha h').1,fun y hy=>(ha h').2 y (by simp [hy])⟩) (fun h'=>⟨(hf h').1,fun y hy=>(hf h').2 y (by simp [hy])⟩) (i+1)
   have r2':=r2
   refine ⟨?_,fun j hj=>?_⟩
   · simp only [Sem.run_bind,hq',Result.andThen_ok,Bool.false_eq_true,if_false,r1]
     congr 1
     cases hp:placeE kd m (i+1) with
     | none=>rfl
     | some j =>
      have:=r2 j hp
      simp only [Option.map_some]
      rw [show j - i=(j - (i+1))+1 by omega]
      simp
   · have:=r2 j (by simpa using hj);omega
 | [],_::_,h,_,_,_,_=>h.elim
 | _::_,[],h,_,_,_,_=>h.elim
theorem toList_inj' {a b:ByteArray} (h:a.toList=b.toList):a=b:=by
 have e:∀ c:ByteArray,c.toList=c.data.toList:=fun c=>by
  have:=bs_toList c.data.toList
  rwa [show bs c.data.toList=c by cases c;simp [bs]] at this
 rw [e,e] at h
 cases a;cases b
 simp only at h
 congr 1
 exact Array.toList_inj.1 h
theorem ba_same (a:ByteArray):(a==a)=true:=by cases a;exact beq_self_eq_true (α:=Array UInt8) _
theorem ba_not {a b:ByteArray} (h:¬ a=b):(a==b)=false:=by
 cases a with | mk x=>cases b with | mk y =>
  show (x==y)=false
  exact beq_eq_false_iff_ne.2 fun e=>h (by rw [e])
theorem now_asking {kt:TypeId} {kind:TypeDesc} {k:Value} {w:World} (hu:P.underlying kt=some kind):∀ (es:List MapEntry) (i:Nat) (r:Option (Nat×Value)),Instr.findNow kind k es i=some r->(Instr.findAsking kt k es i).run P w = .ok r w
 | [],i,r,h=>by
  injection h with h
  subst h
  simp [Instr.findAsking]
 | e::es,i,r,h=>by
  have hs:∀ b,Instr.sameNow kind k e.key=some b->(Op.equal kt k e.key).run P w = .ok b w:=by
   intro b hb
   have deep:∀ {r:Bool} {x y:Value},(∀ d,(Op.equalIn (d+1) kt x y).run P w = .ok r w)->(Op.equal kt x y).run P w = .ok r w:=fun h=>h 9999
   refine deep fun d=>?_
   unfold Instr.sameNow at hb
   split at hb
   · rename_i he
     split at hb
     · rename_i hab
       subst hab
       injection hb with hb
       subst hb
       rw [he]
       exact run_equalIn_int w d kt _ _ _ _ hu
     · cases hb
   · rename_i a' b' he
     injection hb with hb;subst hb
     rw [he,run_equalIn_string w d kt _ _ hu]
     congr 1
     by_cases hab:a'=b'
     · subst hab;rw [ba_same];simp
     · have:¬ a'.toList=b'.toList:=fun h=>hab (toList_inj' h)
       rw [ba_not hab];simp [this]
   · rename_i he;injection hb with hb;subst hb;rw [he];exact run_equalIn_bool' w d kt _ _ hu
   · cases hb
  unfold Instr.findNow at h
  unfold Instr.findAsking
  split at h
  · rename_i hq
    injection h with h
    subst h
    simp [hs true hq]
  · rename_i hq
    simp [hs false hq,now_asking hu es (i+1) r h]
  · cases h
theorem findKey_run {kt:TypeId} {ks:List Nat} (ht:keyT P kt=some ks) {S:Addr->Prop} {w:World} {k:Value} {kd:V} (hk:R S w k kd) {es:List MapEntry} {m:List (V×V)} (hm:RM S w es m) (he:∀ x∈m,eqLS ks kd.cs x.1.cs) (ha:(ty P kt).agg=true->kd = .agg kd.cs/\∀ x∈m,x.1 = .agg x.1.cs) (hf:(ty P kt).agg=false->kd.cs=[kd]/\∀ x∈m,x.1.cs=[x.1]) :
  (Instr.findKey kt k es).run P w = .ok ((placeE kd m 0).map fun j=>(j,(es.getD j default).val)) w:=by
 have h1:=(find_run ht hk es m hm he ha hf 0).1
 simp only [Nat.sub_zero] at h1
 obtain ⟨d,hd⟩:∃ d,P.underlying kt=some d:=by
  have:(ty P kt).kind≠0:=(leaf_ty ht).1
  cases hu:P.underlying kt with
  | some d=>exact ⟨d,rfl⟩
  | none=>exfalso;apply this;unfold ty;rw [hu];cases P.info? kt<;>rfl
 unfold Instr.findKey
 rw [Sem.run_bind,run_underlying hd]
 simp only [Result.andThen_ok]
 cases hn:Instr.findNow d k es 0 with
 | none=>exact h1
 | some r =>
  have:=now_asking (P:=P) (w:=w) hd es 0 r hn
  rw [h1] at this
  simp only [Sem.run_pure]
  exact this.symm
theorem place_lt {kd:V}:∀ (m:List (V×V)) (i j:Nat),placeE kd m i=some j->i<=j/\j<i+m.length/\eqL kd.cs (m.getD (j - i) (.any, .any)).1.cs=true
 | [],i,j,h=>by cases h
 | x::m,i,j,h=>by
  unfold placeE at h
  split at h
  · rename_i hb;injection h with h;subst h
    exact ⟨Nat.le_refl _,by simp,by simpa using hb⟩
  · obtain ⟨h1,h2,h3⟩:=place_lt m (i+1) j h
    refine ⟨by omega,by simp;omega,?_⟩
    rw [show j - i=(j - (i+1))+1 by omega]
    simpa using h3
theorem look_place {kd:V}:∀ (m:List (V×V)) (i:Nat),lookV kd m=(placeE kd m i).map fun j=>(m.getD (j - i) (.any, .any)).2
 | [],i=>rfl
 | x::m,i=>by
  unfold lookV placeE
  split
  · simp
  · rw [look_place m (i+1)]
    cases hp:placeE kd m (i+1) with
    | none=>rfl
    | some j =>
     have:=place_lt m (i+1) j hp
     simp only [Option.map_some]
     rw [show j - i=(j - (i+1))+1 by omega]
     simp
theorem upd_place {kd vd:V}:∀ (m:List (V×V)) (i:Nat),updV kd vd m=match placeE kd m i with
  | some j=>m.set (j - i) ((m.getD (j - i) (.any, .any)).1,vd)
  | none=>m++[(kd,vd)]
 | [],i=>rfl
 | x::m,i=>by
  unfold updV placeE
  split
  · simp
  · rw [upd_place m (i+1)]
    cases hp:placeE kd m (i+1) with
    | none=>rfl
    | some j =>
     have:=place_lt m (i+1) j hp
     simp only
     rw [show j - i=(j - (i+1))+1 by omega]
     simp
theorem drop_place {kd:V}:∀ (m:List (V×V)) (i:Nat),dropV kd m=match placeE kd m i with
  | some j=>m.eraseIdx (j - i)
  | none=>m
 | [],i=>rfl
 | x::m,i=>by
  unfold dropV placeE
  split
  · simp
  · rw [drop_place m (i+1)]
    cases hp:placeE kd m (i+1) with
    | none=>rfl
    | some j =>
     have:=place_lt m (i+1) j hp
     simp only
     rw [show j - i=(j - (i+1))+1 by omega]
     simp
theorem eqL_val {S:Addr->Prop} {w:World}:∀ {ks:List Nat} {l m:List V},eqLS ks l m->eqL l m=true->l=m
 | [],[],[],_,_=>rfl
 | k::ks,a::l,b::m,h,e=>by
  unfold eqL at e
  rw [Bool.and_eq_true] at e
  rw [eqL_val (S:=S) (w:=w) h.2 e.2]
  have h:=h.1
  have e:=e.1
  cases a<;>cases b<;>first | exact h.elim | simp_all
 | [],_::_,_,h,_=>h.elim
 | [],[],_::_,h,_=>h.elim
 | _::_,[],_,h,_=>h.elim
 | _::_,_::_,[],h,_=>h.elim
theorem leaf_uniq {S:Addr->Prop} {w:World} {u v:Value} {k:Nat} {d:V} (hd:match d with
  | .int _ _=>k=2
  | .str _=>k=3
  | .bool _=>k=1
  | _=>False) (hu:R S w u d) (hv:R S w v d):u=v/\∀ n,Instr.sameBits n u u=true:=by
 cases d<;>first | exact hd.elim | (cases hu;cases hv;refine ⟨rfl,fun n=>?_⟩;cases n<;>first | (simp [Instr.sameBits];done) | (simp only [Instr.sameBits,ba_same];done) | exact ba_same _)
theorem kinds_uniq {S:Addr->Prop} {w:World}:∀ {ks:List Nat} {cs:List V} {xs ys:List Value},kindS ks cs->xs.length=cs.length->ys.length=cs.length->(∀ k,k<cs.length->R S w (xs.getD k undef) (cs.getD k .any))->(∀ k,k<cs.length->R S w (ys.getD k undef) (cs.getD k .any))->xs=ys/\∀ x∈xs,∀ n,Instr.sameBits n x x=true
 | [],[],[],[],_,_,_,_,_=>⟨rfl,fun _ h=>nomatch h⟩
 | k::ks,c::cs,x::xs,y::ys,hk,h1,h2,hx,hy=>by
  obtain ⟨g1,g2⟩:=kinds_uniq (xs:=xs) (ys:=ys) hk.2 (by simpa using h1) (by simpa using h2) (fun k hk=>by simpa using hx (k+1) (by simpa using hk)) (fun k hk=>by simpa using hy (k+1) (by simpa using hk))
  obtain ⟨e1,e2⟩:=leaf_uniq hk.1 (by simpa using hx 0 (by simp)) (by simpa using hy 0 (by simp))
  refine ⟨by rw [e1,g1],fun z hz=>?_⟩
  rcases List.mem_cons.1 hz with rfl | hz
  · exact e2
  · exact g2 z hz
 | [],_::_,_,_,h,_,_,_,_=>h.elim
 | _::_,[],_,_,h,_,_,_,_=>h.elim
 | _,_::_,[],_,_,h,_,_,_=>by simp at h
 | _,[],_::_,_,_,h,_,_,_=>by simp at h
 | _,_::_,_,[],_,_,h,_,_=>by simp at h
 | _,[],_,_::_,_,_,h,_,_=>by simp at h
theorem key_uniq' {S:Addr->Prop} {w:World} {ks:List Nat} {d:V} {u v:Value} (hk:kindS ks d.cs) (hs:d = .agg d.cs\/d.cs=[d]) (hu:R S w u d) (hv:R S w v d):u=v/\Instr.sameBits 10000 u u=true:=by
 rcases hs with hs | hs
 · generalize d.cs=cs at *
   subst hs
   cases hu with
   | agg xs _ hn hr =>
    cases hv with
    | agg ys _ hn' hr' =>
     obtain ⟨g1,g2⟩:=kinds_uniq (xs:=xs.toList) (ys:=ys.toList) hk (by simpa using hn) (by simpa using hn') (fun k hk=>by simpa [Array.getD_eq_getD_getElem?,List.getD_eq_getElem?_getD] using hr k hk) (fun k hk=>by simpa [Array.getD_eq_getD_getElem?,List.getD_eq_getElem?_getD] using hr' k hk)
     have e:xs=ys:=by cases xs;cases ys;simpa using g1
     subst e
     refine ⟨rfl,?_⟩
     unfold Instr.sameBits
     simp only [beq_self_eq_true,Bool.true_and,List.all_eq_true]
     intro p hp
     have:p.1=p.2/\p.1∈xs.toList:=by
      have:=List.of_mem_zip hp
      obtain ⟨i,hi,rfl⟩:=List.getElem_of_mem hp
      simp
     rw [<-this.1]
     exact g2 _ this.2 _
 · rw [hs] at hk
   cases ks with
   | nil=>exact hk.elim
   | cons k ks =>
    obtain ⟨g1,g2⟩:=leaf_uniq hk.1 hu hv
    exact ⟨g1,g2 _⟩
def zeroD (P:Program) (t:TypeId):V:=match (P.info? t).bind (·.zero) with
 | some v=>ofConst v
 | none=>.any
def OnM (H:Own) (r:Nat) (G:List (V×V)->(Ent->Own)->Prop):Prop:=∃ m,On H (.map r m) (G m)
theorem OnM.here {H:Own} {r:Nat} {m:List (V×V)} {G:List (V×V)->(Ent->Own)->Prop} (h:G m fun x=>x::H):OnM (.map r m::H) r G:=⟨m,On.here h⟩
theorem OnM.next {H:Own} {r:Nat} {y:Ent} {G:List (V×V)->(Ent->Own)->Prop} (h:OnM H r fun m C=>G m fun x=>y::C x):OnM (y::H) r G:=by
 obtain ⟨m,h⟩:=h
 exact ⟨m,On.next h⟩
section
variable {o:Oper} {f:Operand->V} {H:Own} {K:V->Own->Prop}
theorem KeyS.parts {t:TypeId} {kd:V} {m:List (V×V)} (h:KeyS P t kd m):∃ ks,P.underlying t=some (.map (ty P t).key (ty P t).elem)/\keyT P (ty P t).key=some ks/\keysS ks kd m/\shapeS P (ty P t).key m kd:=by
 obtain ⟨h1,h2,h3⟩:=h
 cases hk:keyT P (ty P t).key with
 | none=>rw [hk] at h2;exact h2.elim
 | some ks=>rw [hk] at h2;exact ⟨ks,und_map h1,rfl,h2,h3⟩
theorem KeyS.check {t:TypeId} {kd:V} {m:List (V×V)} (h:KeyS P t kd m) {S:Addr->Prop} {w:World} {k:Value} (hk:R S w k kd) (em:Bool):(Instr.checkKey em 10000 (ty P t).key k).run P w = .ok () w:=by
 obtain ⟨ks,_,h2,h3,h4⟩:=h.parts
 exact ck_run (P:=P) 6 _ ks h2 10000 (by decide) em S w k kd hk (fun ha=>(h4.1 ha).1) (fun ha=>(h4.2 ha).1) (kindS_of h3.1)
theorem KeyS.find {t:TypeId} {kd:V} {m:List (V×V)} (h:KeyS P t kd m) {S:Addr->Prop} {w:World} {k:Value} (hk:R S w k kd) {es:List MapEntry} (hm:RM S w es m):(Instr.findKey (ty P t).key k es).run P w = .ok ((placeE kd m 0).map fun j=>(j,(es.getD j default).val)) w:=by
 obtain ⟨ks,_,h2,h3,h4⟩:=h.parts
 exact findKey_run h2 hk hm h3.2 h4.1 h4.2
theorem map_of {w:World} {L1 L2:Own} {r:Nat} {m:List (V×V)} (hs:Sim w (L1 ++ .map r m::L2)):∃ es clock,w.heap[r]? = some (.map es clock)/\RM (stable w (L1 ++ .map r m::L2)) w es.toList m/\es.size=m.length /\
  (∀ i j,i<j->j<es.size->(es.getD i default).born<(es.getD j default).born)/\∀ i,i<es.size->(es.getD i default).born<clock:=by
 obtain ⟨es,clock,h1,h2,h3,h4,h5⟩:=hs.holds (.map r m) (by simp)
 exact ⟨es,clock,h1,RM.of (by simpa using h2) (fun k hk=>by simpa [Array.getD_eq_getD_getElem?,List.getD_eq_getElem?_getD] using h3 k hk),h2,h4,h5⟩
theorem DOp.look_ {t:TypeId} {x ix:Operand} {ok:Bool} {r:Nat} (hop:o.op = .lookup t x ix ok) (hx:f x = .raw (.map (some r)))
  (h:OnM H r fun m _=>(KeyS P t (f ix) m/\(ty P (ty P t).elem).kind≠0/\(ty P (ty P t).elem).kind≠11/\(ty P (ty P t).elem).zero≠[])/\K (if ok=true then .tup [(lookV (f ix) m).getD (zeroD P (ty P t).elem), .bool (lookV (f ix) m).isSome] else (lookV (f ix) m).getD (zeroD P (ty P t).elem)) H):DOp P o f H K:=by
 obtain ⟨m,L1,L2,rfl,⟨hK,z0,z1,z2⟩,hk⟩:=h
 refine DOp.step fun a w hs hr=>?_
 have hv:=hr x (by simp [hop,Op.operands])
 rw [hx] at hv
 have hv:a.eval x = .map (some r):=by generalize a.eval x=v at hv;cases hv;rfl
 have hi:=hr ix (by simp [hop,Op.operands])
 obtain ⟨es,clock,g1,g2,g3,_,_⟩:=map_of hs
 obtain ⟨ks,hu,_,_,_⟩:=hK.parts
 have hck:=hK.check hi es.isEmpty
 have hfi:=hK.find hi g2
 have hget:(getObj r).run P w = .ok (.map es clock) w:=by simp [getObj,Sem.run,g1]
 obtain ⟨i,d,i1,_,_,_,_,i2⟩:=ty_info (P:=P) (t:=(ty P t).elem) rfl z0 z1
 cases hzz:i.zero with
 | none=>rw [hzz] at i2;exact absurd i2 z2
 | some z =>
  have hzd:zeroD P (ty P t).elem=ofConst z:=by simp [zeroD,i1,hzz]
  have hzr:(zeroValue (ty P t).elem).run P w = .ok z w:=by simp [zeroValue,typeInfo,program,Sem.run,i1,hzz]
  obtain ⟨b1,b2⟩:=g2.back
  have hres:∃ v,(R (stable w (L1 ++ .map r m::L2)) w v ((lookV (f ix) m).getD (zeroD P (ty P t).elem)))/\(Instr.lookup t (a.eval x) (a.eval ix) ok).run P w = .ok (if ok then .tuple #[v, .bool (lookV (f ix) m).isSome] else v) w:=by
   unfold Instr.lookup
   rw [hv]
   simp only [Sem.run_bind,run_underlying hu,Result.andThen_ok,hget,Sem.run_pure,hck,hfi]
   rw [look_place m 0]
   cases hp:placeE (f ix) m 0 with
   | none =>
    refine ⟨z,by rw [hzd];exact R.const _ _ _,?_⟩
    simp [hzr]
   | some j =>
    obtain ⟨_,j2,_⟩:=place_lt m 0 j hp
    refine ⟨(es.toList.getD j default).val,by simpa using (b2 j (by omega)).2,?_⟩
    simp
  obtain ⟨v,v1,v2⟩:=hres
  refine ⟨(if ok then .tuple #[v, .bool (lookV (f ix) m).isSome] else v),w,_,_,?_,⟨hs, .refl _ _⟩,?_,hk⟩
  · unfold execOp
    rw [hop]
    simp [v2]
  · cases ok with
    | true=>exact .tup _ _ rfl (fun k hk=>match k,hk with
     | 0,_=>v1
     | 1,_=>.bool _)
    | false=>exact v1
theorem RM.set {S:Addr->Prop} {w:World} {e:MapEntry} {x:V×V} (h:R S w e.key x.1/\R S w e.val x.2):∀ {es:List MapEntry} {m:List (V×V)} (j:Nat),RM S w es m->RM S w (es.set j e) (m.set j x)
 | [],[],_,_=>trivial
 | _::es,_::m,0,⟨_,h2⟩=>⟨h,h2⟩
 | _::es,_::m,j+1,⟨h1,h2⟩=>⟨h1,RM.set h j h2⟩
 | [],_::_,_,h=>h.elim
 | _::_,[],_,h=>h.elim
theorem RM.push {S:Addr->Prop} {w:World} {e:MapEntry} {x:V×V} (h:R S w e.key x.1/\R S w e.val x.2):∀ {es:List MapEntry} {m:List (V×V)},RM S w es m->RM S w (es++[e]) (m++[x])
 | [],[],_=>⟨h,trivial⟩
 | _::es,_::m,⟨h1,h2⟩=>⟨h1,RM.push h h2⟩
 | [],_::_,h=>h.elim
 | _::_,[],h=>h.elim
theorem RM.erase {S:Addr->Prop} {w:World}:∀ {es:List MapEntry} {m:List (V×V)} (j:Nat),RM S w es m->RM S w (es.eraseIdx j) (m.eraseIdx j)
 | [],[],_,_=>trivial
 | _::es,_::m,0,⟨_,h2⟩=>h2
 | _::es,_::m,j+1,⟨h1,h2⟩=>⟨h1,RM.erase j h2⟩
 | [],_::_,_,h=>h.elim
 | _::_,[],_,h=>h.elim
theorem Sim.turn {w:World} {L1 L2:Own} {r:Nat} {m m':List (V×V)} {es es':Array MapEntry} {clock clock':Nat} (hs:Sim w (L1 ++ .map r m::L2)) (h1:w.heap[r]? = some (.map es clock))
  (hm:RM (stable w (L1 ++ .map r m::L2)) w es'.toList m') (hb:∀ i j,i<j->j<es'.size->(es'.getD i default).born<(es'.getD j default).born) (hc:∀ i,i<es'.size->(es'.getD i default).born<clock') :
  Sim { w with heap:=w.heap.setIfInBounds r (.map es' clock') } (L1 ++ .map r m'::L2)/\Ext w (L1 ++ .map r m::L2) { w with heap:=w.heap.setIfInBounds r (.map es' clock') } (L1 ++ .map r m'::L2):=by
 have hlt:r<w.heap.size:=(Array.getElem?_eq_some_iff.1 h1).1
 refine Sim.swap (e0:=.map r m) (e1:=.map r m') hs rfl rfl rfl (by simp) (fun b _ hb=>by simp only [Array.getElem?_setIfInBounds];rw [if_neg (fun e=>hb e.symm)]) (fun q _ hq=>by
  simp only [World.cell?,Array.getElem?_setIfInBounds];rw [if_neg (fun e=>hq e.symm)]) (fun b hb=>.inl hb) (fun q hq=>.inl hq) (fun hst=>?_)
 obtain ⟨b1,b2⟩:=(hm.mono hst).back
 refine ⟨es',clock',?_,by simpa using b1,fun k hk=>?_,hb,hc⟩
 · show (w.heap.setIfInBounds r _)[r]? = _
   simp [Array.getElem?_setIfInBounds,hlt]
 · simpa [Array.getD_eq_getD_getElem?,List.getD_eq_getElem?_getD] using b2 k hk
theorem DOp.upd_ {t:TypeId} {x ix v:Operand} {r:Nat} (hop:o.op = .mapUpdate t x ix v) (hx:f x = .raw (.map (some r)))
  (h:OnM H r fun m C=>KeyS P t (f ix) m/\K .any (C (.map r (updV (f ix) (f v) m)))):DOp P o f H K:=by
 obtain ⟨m,L1,L2,rfl,hK,hk⟩:=h
 refine DOp.skip_ fun a w hs hr=>?_
 have hv:=hr x (by simp [hop,Op.operands])
 rw [hx] at hv
 have hv:a.eval x = .map (some r):=by generalize a.eval x=v at hv;cases hv;rfl
 have hi:=hr ix (by simp [hop,Op.operands])
 have hval:=hr v (by simp [hop,Op.operands])
 obtain ⟨es,clock,g1,g2,g3,g4,g5⟩:=map_of hs
 obtain ⟨ks,hu,_,k1,k2⟩:=hK.parts
 have hck:=hK.check hi false
 have hfi:=hK.find hi g2
 have hget:(getObj r).run P w = .ok (.map es clock) w:=by simp [getObj,Sem.run,g1]
 have hset:∀ o':Obj,(setObj r o').run P w = .ok () { w with heap:=w.heap.setIfInBounds r o' }:=fun o'=>by simp [setObj,Sem.run,g1]
 obtain ⟨b1,b2⟩:=g2.back
 have hup:=upd_place (kd:=f ix) (vd:=f v) m 0
 cases hp:placeE (f ix) m 0 with
 | none =>
  rw [hp] at hfi hup
  simp only at hup
  refine ⟨_,_,?_,Sim.turn (m':=updV (f ix) (f v) m) (es':=es.push { key:=a.eval ix,val:=a.eval v,born:=clock }) (clock':=clock+1) hs g1 ?_ ?_ ?_,hk⟩
  · unfold execOp
    rw [hop]
    simp [Instr.mapUpdate,hv,run_underlying hu,hget,hck,hfi,hset]
  · rw [hup,Array.toList_push]
    exact RM.push ⟨hi,hval⟩ g2
  · intro i j hij hj
    simp only [Array.size_push] at hj
    rcases Nat.lt_or_ge j es.size with hj' | hj'
    · have:=g4 i j hij hj'
      simpa [Array.getD_eq_getD_getElem?,Array.getElem?_push,show i≠es.size by omega,show j≠es.size by omega] using this
    · obtain rfl:j=es.size:=by omega
      have:=g5 i hij
      simpa [Array.getD_eq_getD_getElem?,Array.getElem?_push,show i≠es.size by omega] using this
  · intro i hi'
    simp only [Array.size_push] at hi'
    rcases Nat.lt_or_ge i es.size with hj' | hj'
    · have:=g5 i hj'
      have e:(es.push { key:=a.eval ix,val:=a.eval v,born:=clock }).getD i default=es.getD i default:=by simp [Array.getD_eq_getD_getElem?,Array.getElem?_push,show i≠es.size by omega]
      rw [e];omega
    · obtain rfl:i=es.size:=by omega
      simp [Array.getD_eq_getD_getElem?,Array.getElem?_push]
 | some j =>
  rw [hp] at hfi hup
  simp only [Nat.sub_zero] at hup
  obtain ⟨_,j2,j3⟩:=place_lt m 0 j hp
  simp only [Nat.sub_zero,Nat.zero_add] at j2 j3
  have hj:j<es.size:=by omega
  have hold:=b2 j j2
  have hmem:m.getD j (.any, .any)∈m:=by rw [List.getD_eq_getElem?_getD,List.getElem?_eq_getElem j2];exact List.getElem_mem j2
  have hcs:=eqL_val (S:=stable w (L1 ++ .map r m::L2)) (w:=w) (k1.2 _ hmem) j3
  have hsame:(m.getD j (.any, .any)).1=f ix:=by
   cases ha:(ty P (ty P t).key).agg with
   | true=>rw [(k2.1 ha).2 _ hmem,(k2.1 ha).1,hcs]
   | false =>
    have e1:=(k2.2 ha).2 _ hmem
    have e2:=(k2.2 ha).1
    rw [e1,e2] at hcs
    simpa using hcs.symm
  have hkey:=hold.1
  rw [hsame] at hkey
  have hshape:f ix = .agg (f ix).cs\/(f ix).cs=[f ix]:=by
   cases ha:(ty P (ty P t).key).agg with
   | true=>exact .inl (k2.1 ha).1
   | false=>exact .inr (k2.2 ha).1
  obtain ⟨u1,u2⟩:=key_uniq' (kindS_of k1.1) hshape hkey hi
  have hes:(es.toList.getD j default).key=(es[j]?.map (·.key)).getD (a.eval ix):=by
   simp [List.getD_eq_getElem?_getD,hj]
  have hstay:(Instr.keyThatStays ((es[j]?.map (·.key)).getD (a.eval ix)) (a.eval ix)).run P w = .ok (a.eval ix) w:=by
   rw [<-hes,u1]
   rw [u1] at u2
   unfold Instr.keyThatStays
   rw [if_pos u2]
   rfl
  refine ⟨_,_,?_,Sim.turn (m':=updV (f ix) (f v) m) (es':=es.modify j fun e=>{ e with key:=a.eval ix,val:=a.eval v }) (clock':=clock) hs g1 ?_ ?_ ?_,hk⟩
  · unfold execOp
    rw [hop]
    simp [Instr.mapUpdate,hv,run_underlying hu,hget,hck,hfi,hset,hstay]
  · rw [hup,hsame]
    have e:(es.modify j fun e=>{ e with key:=a.eval ix,val:=a.eval v }).toList=es.toList.set j { (es.toList.getD j default) with key:=a.eval ix,val:=a.eval v }:=by
     rw [Array.toList_modify]
     refine List.ext_getElem? fun i=>?_
     rw [List.getElem?_modify,List.getElem?_set]
     by_cases hij:j=i
     · subst hij;simp [hj,List.getD_eq_getElem?_getD]
     · simp [hij]
    rw [e]
    exact RM.set ⟨hi,hval⟩ j g2
  · intro i k hij hk'
    simp only [Array.size_modify] at hk'
    have hb:∀ i,i<es.size->((es.modify j fun e=>{ e with key:=a.eval ix,val:=a.eval v }).getD i default).born=(es.getD i default).born:=by
     intro i hi'
     simp only [Array.getD_eq_getD_getElem?,Array.getElem?_modify]
     by_cases hij:j=i
     · subst hij;simp [hj]
     · simp [hij]
    rw [hb i (by omega),hb k hk']
    exact g4 i k hij hk'
  · intro i hi'
    simp only [Array.size_modify] at hi'
    have hb:((es.modify j fun e=>{ e with key:=a.eval ix,val:=a.eval v }).getD i default).born=(es.getD i default).born:=by
     simp only [Array.getD_eq_getD_getElem?,Array.getElem?_modify]
     by_cases hij:j=i
     · subst hij;simp [hj]
     · simp [hij]
    rw [hb];exact g5 i hi'
end
end
end
section
open Go.RowKit
section
variable {α β:Type} [DecidableEq α]
def lookA (k:α):List (α×β)->Option β
 | x::m=>if k=x.1 then some x.2 else lookA k m
 | []=>none
def updA (k:α) (v:β):List (α×β)->List (α×β)
 | x::m=>if k=x.1 then (x.1,v)::m else x::updA k v m
 | []=>[(k,v)]
def dropA (k:α):List (α×β)->List (α×β)
 | x::m=>if k=x.1 then m else x::dropA k m
 | []=>[]
def entM (ek:α->V) (ev:β->V) (l:List (α×β)):List (V×V):=l.map fun x=>(ek x.1,ev x.2)
theorem entM_nil (ek:α->V) (ev:β->V):entM ek ev []=[]:=rfl
theorem entM_len (ek:α->V) (ev:β->V) (l:List (α×β)):(entM ek ev l).length=l.length:=List.length_map ..
structure KeyE (ks:List Nat) (g:Bool) (ek:α->V):Prop where
 eq:∀ a b,eqLS ks (ek a).cs (ek b).cs
 dec:∀ a b,eqL (ek a).cs (ek b).cs=decide (a=b)
 shape:∀ a,(g=true->ek a = .agg (ek a).cs)/\(g=false->(ek a).cs=[ek a])
variable {ks:List Nat} {g:Bool} {ek:α->V} {ev:β->V}
theorem look_ent (h:KeyE ks g ek) (a:α):∀ l:List (α×β),lookV (ek a) (entM ek ev l)=(lookA a l).map ev
 | []=>rfl
 | x::l=>by
  have ih:=look_ent h a l
  unfold entM at ih ⊢
  rw [List.map_cons]
  unfold lookV lookA
  rw [h.dec]
  by_cases e:a=x.1
  · rw [if_pos (decide_eq_true e),if_pos e];rfl
  · rw [if_neg (by simp [e]),if_neg e];exact ih
theorem upd_ent (h:KeyE ks g ek) (a:α) (v:β):∀ l:List (α×β),updV (ek a) (ev v) (entM ek ev l)=entM ek ev (updA a v l)
 | []=>rfl
 | x::l=>by
  have ih:=upd_ent h a v l
  unfold entM at ih ⊢
  rw [List.map_cons]
  unfold updV updA
  rw [h.dec]
  by_cases e:a=x.1
  · rw [if_pos (decide_eq_true e),if_pos e];rfl
  · rw [if_neg (by simp [e]),if_neg e,List.map_cons,ih]
theorem drop_ent (h:KeyE ks g ek) (a:α):∀ l:List (α×β),dropV (ek a) (entM ek ev l)=entM ek ev (dropA a l)
 | []=>rfl
 | x::l=>by
  have ih:=drop_ent h a l
  unfold entM at ih ⊢
  rw [List.map_cons]
  unfold dropV dropA
  rw [h.dec]
  by_cases e:a=x.1
  · rw [if_pos (decide_eq_true e),if_pos e]
  · rw [if_neg (by simp [e]),if_neg e,List.map_cons,ih]
def mapT (P:Program) (t:TypeId):Option (List Nat×Bool):=if (ty P t).kind=8 then (keyT P (ty P t).key).map fun ks=>(ks,(ty P (ty P t).key).agg) else none
theorem keyS_ent {P:Program} {t:TypeId} (h:KeyE ks g ek) (a:α) (l:List (α×β)) (ht:mapT P t=some (ks,g)):KeyS P t (ek a) (entM ek ev l):=by
 unfold mapT at ht
 split at ht
 · rename_i h8
   cases hk:keyT P (ty P t).key with
   | none=>rw [hk] at ht;cases ht
   | some ks' =>
    rw [hk] at ht
    simp only [Option.map_some,Option.some.injEq,Prod.mk.injEq] at ht
    obtain ⟨rfl,rfl⟩:=ht
    refine ⟨h8,?_,?_⟩
    · rw [hk]
      refine ⟨h.eq a a,fun x hx=>?_⟩
      obtain ⟨y,_,rfl⟩:=List.mem_map.1 hx
      exact h.eq a y.1
    · refine ⟨fun hg=>⟨(h.shape a).1 hg,fun x hx=>?_⟩,fun hg=>⟨(h.shape a).2 hg,fun x hx=>?_⟩⟩
      · obtain ⟨y,_,rfl⟩:=List.mem_map.1 hx;exact (h.shape y.1).1 hg
      · obtain ⟨y,_,rfl⟩:=List.mem_map.1 hx;exact (h.shape y.1).2 hg
 · cases ht
theorem keyS_nil {P:Program} {t:TypeId} (h:KeyE ks g ek) (a:α) (ht:mapT P t=some (ks,g)):KeyS P t (ek a) []:=keyS_ent (β:=α) (ev:=ek) h a [] ht
end
theorem strE:KeyE [3] false V.str:=⟨fun a b=>⟨rfl,trivial⟩,fun a b=>by rw [Bool.eq_iff_iff];simp [V.cs,eqL],fun a=>⟨(fun h=>nomatch h),fun _=>rfl⟩⟩
section
variable {α β:Type} [DecidableEq α]
theorem lookA_none {k:α}:∀ {l:List (α×β)},lookA k l=none↔∀ x∈l,k≠x.1
 | []=>⟨fun _ _ h=>(nomatch h),fun _=>rfl⟩
 | x::l=>by
  unfold lookA
  by_cases e:k=x.1
  · rw [if_pos e];exact ⟨(fun h=>nomatch h),fun h=>absurd e (h x List.mem_cons_self)⟩
  · rw [if_neg e,lookA_none]
    exact ⟨fun h y hy=>by
     rcases List.mem_cons.1 hy with rfl | hy
     · exact e
     · exact h y hy,fun h y hy=>h y (List.mem_cons_of_mem _ hy)⟩
theorem lookA_some {k:α} {v:β}:∀ {l:List (α×β)},lookA k l=some v->(k,v)∈l
 | [],h=>by cases h
 | x::l,h=>by
  unfold lookA at h
  by_cases e:k=x.1
  · rw [if_pos e] at h;injection h with h;subst h;subst e;exact List.mem_cons_self
  · rw [if_neg e] at h;exact List.mem_cons_of_mem _ (lookA_some h)
theorem lookA_mem {k:α} {v:β}:∀ {l:List (α×β)},(l.map (·.1)).Nodup->(k,v)∈l->lookA k l=some v
 | [],_,h=>(nomatch h)
 | x::l,hn,h=>by
  unfold lookA
  rw [List.map_cons,List.nodup_cons] at hn
  rcases List.mem_cons.1 h with rfl | h
  · rw [if_pos rfl]
  · rw [if_neg,lookA_mem hn.2 h]
    rintro rfl
    exact hn.1 (List.mem_map.2 ⟨_,h,rfl⟩)
theorem updA_new {k:α} {v:β}:∀ {l:List (α×β)},lookA k l=none->updA k v l=l++[(k,v)]
 | [],_=>rfl
 | x::l,h=>by
  unfold lookA at h
  unfold updA
  by_cases e:k=x.1
  · rw [if_pos e] at h;cases h
  · rw [if_neg e] at h ⊢
    rw [updA_new h];rfl
theorem lookA_upd {k j:α} {v:β}:∀ {l:List (α×β)},lookA j (updA k v l)=if j=k then some v else lookA j l
 | []=>by
  unfold updA lookA lookA
  rfl
 | x::l=>by
  unfold updA
  by_cases e:k=x.1
  · rw [if_pos e]
    unfold lookA
    by_cases hj:j=x.1
    · rw [if_pos hj,if_pos (hj.trans e.symm)]
    · rw [if_neg hj,if_neg (fun h=>hj (h.trans e)),if_neg hj]
  · rw [if_neg e]
    unfold lookA
    by_cases hj:j=x.1
    · rw [if_pos hj,if_neg (fun h=>e (h.symm.trans hj)),if_pos hj]
    · rw [if_neg hj,lookA_upd,if_neg hj]
theorem updA_keys {k:α} {v:β}:∀ {l:List (α×β)} {j:α},j∈(updA k v l).map (·.1)↔j=k\/j∈l.map (·.1)
 | [],j=>by simp [updA]
 | x::l,j=>by
  unfold updA
  by_cases e:k=x.1
  · rw [if_pos e]
    simp only [List.map_cons,List.mem_cons]
    rw [e]
    exact ⟨fun h=>.inr h,fun h=>h.elim (fun h=>.inl h) id⟩
  · rw [if_neg e,List.map_cons,List.map_cons,List.mem_cons,List.mem_cons,updA_keys]
    exact ⟨fun h=>by rcases h with h | h | h<;>simp [h],fun h=>by rcases h with h | h | h<;>simp [h]⟩
theorem updA_nodup {k:α} {v:β}:∀ {l:List (α×β)},(l.map (·.1)).Nodup->((updA k v l).map (·.1)).Nodup
 | [],_=>by simp [updA]
 | x::l,h=>by
  unfold updA
  by_cases e:k=x.1
  · rw [if_pos e];exact h
  · rw [if_neg e,List.map_cons,List.nodup_cons,updA_keys]
    rw [List.map_cons,List.nodup_cons] at h
    exact ⟨fun hm=>by
     rcases hm with hm | hm
     · exact e hm.symm
     · exact h.1 hm,updA_nodup h.2⟩
theorem dropA_sub {k:α}:∀ {l:List (α×β)},(dropA k l).Sublist l
 | []=>List.Sublist.refl _
 | x::l=>by
  unfold dropA
  split
  · exact List.sublist_cons_self _ _
  · exact (dropA_sub (l:=l)).cons_cons _
theorem dropA_nodup {k:α} {l:List (α×β)} (h:(l.map (·.1)).Nodup):((dropA k l).map (·.1)).Nodup:=h.sublist (dropA_sub.map _)
theorem mem_dropA {k:α}:∀ {l:List (α×β)},(l.map (·.1)).Nodup->∀ x,x∈dropA k l↔x∈l/\x.1≠k
 | [],_,x=>by simp [dropA]
 | y::l,h,x=>by
  rw [List.map_cons,List.nodup_cons] at h
  unfold dropA
  by_cases e:k=y.1
  · rw [if_pos e,List.mem_cons]
    constructor
    · intro hx
      refine ⟨.inr hx,fun hk=>h.1 ?_⟩
      rw [<-e,<-hk];exact List.mem_map.2 ⟨x,hx,rfl⟩
    · rintro ⟨rfl | hx,hk⟩
      · exact absurd e.symm hk
      · exact hx
  · rw [if_neg e,List.mem_cons,List.mem_cons,mem_dropA h.2]
    constructor
    · rintro (rfl | ⟨hx,hk⟩)
      · exact ⟨.inl rfl,fun hk=>e hk.symm⟩
      · exact ⟨.inr hx,hk⟩
    · rintro ⟨rfl | hx,hk⟩
      · exact .inl rfl
      · exact .inr ⟨hx,hk⟩
theorem lookA_drop {k j:α} {l:List (α×β)} (h:(l.map (·.1)).Nodup):lookA j (dropA k l)=if j=k then none else lookA j l:=by
 by_cases e:j=k
 · subst e
   rw [if_pos rfl,lookA_none]
   exact fun x hx hk=>((mem_dropA h x).1 hx).2 hk.symm
 · rw [if_neg e]
   cases hl:lookA j l with
   | none =>
    rw [lookA_none] at hl ⊢
    exact fun x hx=>hl x (dropA_sub.subset hx)
   | some v=>exact lookA_mem (dropA_nodup h) ((mem_dropA h _).2 ⟨lookA_some hl,e⟩)
end
theorem arr_getD (a:Array MapEntry) (i:Nat):a.getD i default=a.toList.getD i default:=by simp [Array.getD_eq_getD_getElem?,List.getD_eq_getElem?_getD]
theorem getD_erase {α:Type} (d:α) (l:List α) (j k:Nat):(l.eraseIdx j).getD k d=l.getD (if k<j then k else k+1) d:=by
 rw [List.getD_eq_getElem?_getD,List.getElem?_eraseIdx]
 split<;>simp [List.getD_eq_getElem?_getD]
section
variable {P:Program} {o:Oper} {f:Operand->V} {H:Own} {K:V->Own->Prop}
theorem DVop.look_ {e:Env} {mv tm:List Nat} {ops:Array Oper} {K:Env->Own->Prop} {i:Nat} {rest:List Oper} {t:TypeId} {x ix:Operand} {ok:Bool} {r:Nat} (hm:mv.contains i=false) (ht:tm.contains i=true) (hop:o.op = .lookup t x ix ok) (hx:opd e x = .raw (.map (some r)))
  (h:OnM H r fun m _=>(KeyS P t (opd e ix) m/\(ty P (ty P t).elem).kind≠0/\(ty P (ty P t).elem).kind≠11/\(ty P (ty P t).elem).zero≠[]) /\
    FD P (mv++tm) ops (fun i' l' e'=>DV P mv tm ops K i' l' e' H) (i+1) rest (putO e o.dst (if ok=true then .tup [(lookV (opd e ix) m).getD (zeroD P (ty P t).elem), .bool (lookV (opd e ix) m).isSome] else (lookV (opd e ix) m).getD (zeroD P (ty P t).elem)))):DVop P mv tm ops K i o rest e H:=by
 obtain ⟨m,L1,L2,hH,h1,h2⟩:=h
 exact DVop.tm_ hm ht (DOp.look_ hop hx ⟨m,L1,L2,hH,h1,rfl,rfl⟩) h2
theorem DOp.delm_ {x ix:Operand} {t T:TypeId} {r:Nat} (hop:o.op = .call { callee:=.builtin .delete,args:=#[x,ix],argTypes:=#[t,T] }) (hx:f x = .raw (.map (some r)))
  (h:OnM H r fun m C=>KeyS P t (f ix) m/\K (.tup []) (C (.map r (dropV (f ix) m)))):DOp P o f H K:=by
 obtain ⟨m,L1,L2,rfl,hK,hk⟩:=h
 refine DOp.step fun a w hs hr=>?_
 have hv:=hr x (by simp [hop,Op.operands,Call.operands])
 rw [hx] at hv
 have hv:a.eval x = .map (some r):=by generalize a.eval x=v at hv;cases hv;rfl
 have hi:=hr ix (by simp [hop,Op.operands,Call.operands])
 obtain ⟨es,clock,g1,g2,g3,g4,g5⟩:=map_of hs
 obtain ⟨ks,hu,_,k1,k2⟩:=hK.parts
 have hck:=hK.check hi es.isEmpty
 have hfi:=hK.find hi g2
 have hget:(getObj r).run P w = .ok (.map es clock) w:=by simp [getObj,Sem.run,g1]
 have hset:∀ o':Obj,(setObj r o').run P w = .ok () { w with heap:=w.heap.setIfInBounds r o' }:=fun o'=>by simp [setObj,Sem.run,g1]
 have hdr:=drop_place (kd:=f ix) m 0
 cases hp:placeE (f ix) m 0 with
 | none =>
  rw [hp] at hfi hdr
  simp only at hdr
  refine ⟨.tuple #[],_,_,_,?_,Sim.turn (m':=dropV (f ix) m) (es':=es) (clock':=clock) hs g1 (by rw [hdr];exact g2) g4 g5, .tup _ _ rfl (fun _ h=>absurd h (Nat.not_lt_zero _)),hk⟩
  unfold execOp
  rw [hop]
  simp [resolve,invoke,Go.builtin,Builtin.delete_,hv,run_underlying hu,hget,hck,hfi,hset]
 | some j =>
  rw [hp] at hfi hdr
  simp only [Nat.sub_zero] at hdr
  obtain ⟨_,j2,_⟩:=place_lt m 0 j hp
  have hj:j<es.size:=by omega
  have hgd:∀ i,i<es.size - 1->((es.eraseIdxIfInBounds j).getD i default)=es.getD (if i<j then i else i+1) default:=fun i hi=>by
   have e:(es.eraseIdxIfInBounds j).toList=es.toList.eraseIdx j:=by rw [Array.eraseIdxIfInBounds,dif_pos hj];simp
   rw [arr_getD,arr_getD,e,getD_erase]
  have hsz:(es.eraseIdxIfInBounds j).size=es.size - 1:=by rw [Array.eraseIdxIfInBounds,dif_pos hj];simp
  refine ⟨.tuple #[],_,_,_,?_,Sim.turn (m':=dropV (f ix) m) (es':=es.eraseIdxIfInBounds j) (clock':=clock) hs g1 ?_ ?_ ?_, .tup _ _ rfl (fun _ h=>absurd h (Nat.not_lt_zero _)),hk⟩
  · unfold execOp
    rw [hop]
    simp [resolve,invoke,Go.builtin,Builtin.delete_,hv,run_underlying hu,hget,hck,hfi,hset]
  · rw [hdr]
    have e:(es.eraseIdxIfInBounds j).toList=es.toList.eraseIdx j:=by rw [Array.eraseIdxIfInBounds,dif_pos hj];simp
    rw [e]
    exact RM.erase j g2
  · intro i k hik hk'
    rw [hsz] at hk'
    rw [hgd i (by omega),hgd k hk']
    refine g4 _ _ ?_ ?_
    · split<;>split<;>omega
    · split<;>omega
  · intro i hi'
    rw [hsz] at hi'
    rw [hgd i hi']
    refine g5 _ ?_
    split<;>omega
end
theorem opt_bool (o:Option Bool):(o.map V.bool).getD (.bool false) = .bool (o.getD false):=by cases o<;>rfl
theorem opt_int (k:IntKind) (o:Option Int):(o.map (V.int k)).getD (.int k 0) = .int k (o.getD 0):=by cases o<;>rfl
theorem opt_some {α:Type} (f:α->V) (o:Option α):(o.map f).isSome=o.isSome:=by cases o<;>rfl
theorem look_nil (kd:V):lookV kd []=none:=rfl
theorem upd_nil (kd vd:V):updV kd vd []=[(kd,vd)]:=rfl
section
variable {β:Type} {ev:β->V} {P:Program} {t:TypeId}
theorem look_str (s:List UInt8) (l:List (List UInt8×β)):lookV (.str s) (entM V.str ev l)=(lookA s l).map ev:=look_ent strE s l
theorem upd_str (s:List UInt8) (v:β) (l:List (List UInt8×β)):updV (.str s) (ev v) (entM V.str ev l)=entM V.str ev (updA s v l):=upd_ent strE s v l
theorem drop_str (s:List UInt8) (l:List (List UInt8×β)):dropV (.str s) (entM V.str ev l)=entM V.str ev (dropA s l):=drop_ent strE s l
end
end
section
open Go.RowKit
section
variable {P:Program} {o:Oper} {f:Operand->V} {H:Own} {K:V->Own->Prop}
theorem DOp.rangem_ {t:TypeId} {x:Operand} {mr:Nat} (hop:o.op = .range t x) (hx:f x = .raw (.map (some mr)))
  (h:OnM H mr fun m C=>(ty P t).kind=8/\∀ r,K (.raw (.pointer (some ⟨r,0,none⟩))) (C (.miter r mr m m []))):DOp P o f H K:=by
 obtain ⟨m,L1,L2,rfl,h8,hk⟩:=h
 refine DOp.step fun a w hs hr=>?_
 have hv:=hr x (by simp [hop,Op.operands])
 rw [hx] at hv
 have hv:a.eval x = .map (some mr):=by generalize a.eval x=v at hv;cases hv;rfl
 obtain ⟨es,clock,g1,g2,g3,g4,g5⟩:=map_of hs
 have hlt:mr<w.heap.size:=(Array.getElem?_eq_some_iff.1 g1).1
 have hget:(getObj mr).run P w = .ok (.map es clock) w:=by simp [getObj,Sem.run,g1]
 have hsw:=Sim.swap (w':=w.alloc (.mapIter (some mr) clock #[] clock)) (e0:=.map mr m) (e1:=.miter w.heap.size mr m m []) hs rfl rfl rfl (by simp) (fun b hb _=>Below.heap_alloc w _ b hb) (fun q hq _=>by
  obtain ⟨v,hv⟩:=Option.isSome_iff_exists.1 hq
  exact World.cell?_of_block (w:=w) (Below.heap_alloc w _ q.block (World.block_lt_of_cell? w q hv))) (fun b hb=>by
  rcases hb with rfl | rfl
  · exact .inr (Nat.le_refl _)
  · exact .inl rfl) (fun q hq=>by
  rcases hq with hq | hq
  · exact .inr (by rw [hq];exact Nat.le_refl _)
  · exact .inl hq) (fun hst=>by
  obtain ⟨b1,b2⟩:=(g2.mono hst).back
  have hf:(es.toList.filter fun e=>!(#[]:Array Nat).contains e.born)=es.toList:=List.filter_eq_self.2 fun e _=>by simp
  refine ⟨es,clock,?_,by simpa using b1,fun k hk=>?_,g4,g5,#[],heap_alloc_new w _,by rw [hf];simpa using b1,fun k hk=>by rw [hf];exact b2 k hk,fun x hx=>(nomatch hx)⟩
  · rw [Below.heap_alloc w _ mr hlt];exact g1
  · simpa [Array.getD_eq_getD_getElem?,List.getD_eq_getElem?_getD] using b2 k hk)
 refine ⟨.pointer (some ⟨w.heap.size,0,none⟩),_,_,_,?_,hsw, .raw _,hk _⟩
 unfold execOp
 rw [hop]
 simp [Instr.range,hv,run_underlying (und_map h8),hget]
def OnG (H:Own) (r:Nat) (G:Nat->List (V×V)->List (V×V)->List (V×V)->(Ent->Own)->Prop):Prop:=∃ mr m left cur,On H (.miter r mr m left cur) (G mr m left cur)
theorem OnG.here {H:Own} {r mr:Nat} {m left cur:List (V×V)} {G:Nat->List (V×V)->List (V×V)->List (V×V)->(Ent->Own)->Prop} (h:G mr m left cur fun x=>x::H):OnG (.miter r mr m left cur::H) r G:=⟨mr,m,left,cur,On.here h⟩
theorem OnG.next {H:Own} {r:Nat} {y:Ent} {G:Nat->List (V×V)->List (V×V)->List (V×V)->(Ent->Own)->Prop} (h:OnG H r fun mr m left cur C=>G mr m left cur fun x=>y::C x):OnG (y::H) r G:=by
 obtain ⟨mr,m,left,cur,h⟩:=h
 exact ⟨mr,m,left,cur,On.next h⟩
theorem miter_of {w:World} {L1 L2:Own} {r mr:Nat} {m left cur:List (V×V)} (hs:Sim w (L1 ++ .miter r mr m left cur::L2)):(Ent.miter r mr m left cur).holds (stable w (L1 ++ .miter r mr m left cur::L2)) w:=hs.holds _ (by simp)
theorem born_nodup {es:Array MapEntry} (h:∀ i j,i<j->j<es.size->(es.getD i default).born<(es.getD j default).born):es.toList.Pairwise fun a b=>a.born<b.born:=by
 rw [List.pairwise_iff_getElem]
 intro i j hi hj hij
 have:=h i j hij (by simpa using hj)
 have hi':i<es.size:=by simpa using hi
 have hj':j<es.size:=by simpa using hj
 simpa [Array.getD_eq_getD_getElem?,hi',hj'] using this
theorem filter_born:∀ {L:List MapEntry} (_:L.Pairwise fun a b=>a.born<b.born) {j:Nat} (hj:j<L.length),L.filter (fun x=>!(x.born==(L[j]'hj).born))=L.eraseIdx j
 | [],_,_,hj=>absurd hj (Nat.not_lt_zero _)
 | a::L,h,0,_=>by
  rw [List.pairwise_cons] at h
  rw [List.filter_cons]
  simp only [List.getElem_cons_zero,beq_self_eq_true,Bool.not_true,Bool.false_eq_true,if_false,List.eraseIdx_cons_zero]
  exact List.filter_eq_self.2 fun x hx=>by
   have:=h.1 x hx
   have:¬ x.born=a.born:=by omega
   simpa using this
 | a::L,h,j+1,hj=>by
  rw [List.pairwise_cons] at h
  have hj':j<L.length:=by simpa using hj
  have:=h.1 (L[j]) (List.getElem_mem hj')
  rw [List.filter_cons]
  simp only [List.getElem_cons_succ,List.eraseIdx_cons_succ]
  rw [if_pos (by have:¬ a.born=L[j].born:=by omega
                 simpa using this),filter_born h.2 hj']
theorem filter_born' {L:List MapEntry} (h:L.Pairwise fun a b=>a.born<b.born) {j:Nat} {e:MapEntry} (he:L[j]? = some e):L.filter (fun x=>!(x.born==e.born))=L.eraseIdx j:=by
 obtain ⟨hj,rfl⟩:=List.getElem?_eq_some_iff.1 he
 exact filter_born h hj
theorem DOp.nextm_ {x:Operand} {t:TypeId} {r:Nat} (hop:o.op = .next x false) (hx:f x = .raw (.pointer (some ⟨r,0,none⟩)))
  (h:OnG H r fun mr m left cur C=>Both (∀ l1 y l2,left=l1++y::l2->K (.tup [.bool true,y.1,y.2]) (C (.miter r mr m (l1++l2) [y]))) (left=[]->K (.tup [.bool false]) (C (.miter r mr m left cur)))):DOp P o f H K:=by
 obtain ⟨mr,m,left,cur,L1,L2,rfl,k1,k2⟩:=h
 refine DOp.step fun a w hs hr=>?_
 have hv:=hr x (by simp [hop,Op.operands])
 rw [hx] at hv
 have hv:a.eval x = .pointer (some ⟨r,0,none⟩):=by generalize a.eval x=v at hv;cases hv;rfl
 obtain ⟨es,clock,g1,g2,g3,g4,g5,seen,g6,g7,g8,g9⟩:=miter_of hs
 have hne:r≠mr:=fun e=>by rw [e] at g6;rw [g6] at g1;cases g1
 have hlt:r<w.heap.size:=(Array.getElem?_eq_some_iff.1 g6).1
 have hold:∀ x∈es.toList,x.born<clock:=fun x hx=>by
  obtain ⟨i,hi,rfl⟩:=List.getElem_of_mem hx
  have hi':i<es.size:=by simpa using hi
  have:=g5 i hi'
  simpa [Array.getD_eq_getD_getElem?,hi'] using this
 have hlf:(leftOf es seen).toList=es.toList.filter fun e=>!seen.contains e.born:=by unfold leftOf;simp
 rcases run_next_at (P:=P) w o.type r mr clock clock seen es clock g6 g1 hold (Nat.le_refl _) with ⟨h0,hrun⟩ | ⟨e,he,w1,hw1,hrun⟩
 · have hl0:left=[]:=by
    rw [<-List.length_eq_zero_iff,<-g7,<-hlf];simpa using h0
   refine ⟨.tuple #[.bool false],w,_,_,?_,⟨hs, .refl _ _⟩, .tup _ _ rfl (fun k hk=>?_),k2 hl0⟩
   · unfold execOp
     rw [hop]
     simp [hv,hrun]
   · match k,hk with
     | 0,_=>exact .bool _
 · obtain ⟨j,hj,hej⟩:=List.getElem_of_mem he
   have hgo:∀ (w2:World),w2.os=w.os->w2.tape=w.tape->w2.output=w.output->w2.heap=w.heap->w.drawn<=w2.drawn->(Instr.next (.pointer (some ⟨r,0,none⟩)) false o.type).run P w = .ok (.tuple #[.bool true,e.key,e.val]) (Go.ChangeMaps.setBlock w2 r (.mapIter (some mr) clock (seen.push e.born) clock)) ->
     ∃ v w' d H',(execOp a.eval o).run P w = .ok (.value v) w'/\(Sim w' H'/\Ext w (L1 ++ .miter r mr m left cur::L2) w' H')/\R (stable w' H') w' v d/\K d H':=fun w2 e1 e2 e3 e4 e5 hrun=>by
    generalize hlg:(es.toList.filter fun e=>!seen.contains e.born)=lf at *
    have hj':j<lf.length:=by rw [<-hlf];exact hj
    have hej':lf[j]=e:=by rw [<-hej];simp only [hlf]
    have hjl:j<left.length:=by omega
    have hpw:lf.Pairwise fun a b=>a.born<b.born:=by rw [<-hlg];exact (born_nodup g4).filter _
    have hnf:(es.toList.filter fun x=>!(seen.push e.born).contains x.born)=lf.eraseIdx j:=by
     rw [<-filter_born' hpw (List.getElem?_eq_some_iff.2 ⟨hj',hej'⟩),<-hlg,List.filter_filter]
     congr 1
     funext x
     rw [Bool.eq_iff_iff]
     simp only [Bool.not_eq_true',Bool.and_eq_true,Array.contains_push,Bool.or_eq_false_iff]
     constructor
     · rintro ⟨p,q⟩;exact ⟨by simpa [BEq.comm] using q,p⟩
     · rintro ⟨p,q⟩;exact ⟨q,by simpa [BEq.comm] using p⟩
    have hy:=g8 j hjl
    have hye:lf.getD j default=e:=by simp [List.getD_eq_getElem?_getD,hj',hej']
    rw [hye] at hy
    have hsplit:left=left.take j++left.getD j (.any, .any)::left.drop (j+1):=by
     have h1:left.getD j (.any, .any)=left[j]:=by simp [List.getD_eq_getElem?_getD,hjl]
     rw [h1,<-List.drop_eq_getElem_cons hjl,List.take_append_drop]
    have hers:left.take j++left.drop (j+1)=left.eraseIdx j:=(List.eraseIdx_eq_take_drop_succ ..).symm
    have hk:=k1 _ _ _ hsplit
    rw [hers] at hk
    have hsw:=Sim.swap (w':=Go.ChangeMaps.setBlock w2 r (.mapIter (some mr) clock (seen.push e.born) clock)) (e0:=.miter r mr m left cur) (e1:=.miter r mr m (left.eraseIdx j) [left.getD j (.any, .any)]) hs e1 e2 e3 (by simp [Go.ChangeMaps.setBlock,e4])
     (fun b _ hb=>by
       simp only [Go.ChangeMaps.setBlock,Array.getElem?_setIfInBounds,e4]
       rw [if_neg (fun e=>hb (.inl e.symm))])
     (fun q _ hq=>by
       simp only [Go.ChangeMaps.setBlock,World.cell?,Array.getElem?_setIfInBounds,e4]
       rw [if_neg (fun e=>hq (.inl e.symm))])
     (fun b hb=>.inl hb) (fun q hq=>.inl hq) (fun hst=>by
       refine ⟨es,clock,?_,g2,fun k hk=>⟨((g3 k hk).1).mono hst,((g3 k hk).2).mono hst⟩,g4,g5,seen.push e.born,?_,?_,fun k hk=>?_,fun x hx=>?_⟩
       · simp only [Go.ChangeMaps.setBlock,Array.getElem?_setIfInBounds,e4]
         rw [if_neg hne];exact g1
       · simp [Go.ChangeMaps.setBlock,Array.getElem?_setIfInBounds,e4,hlt]
       · rw [hnf,List.length_eraseIdx,List.length_eraseIdx,g7]
       · rw [hnf,getD_erase,getD_erase]
         rw [List.length_eraseIdx,if_pos hjl] at hk
         have:=g8 (if k<j then k else k+1) (by split<;>omega)
         exact ⟨this.1.mono hst,this.2.mono hst⟩
       · rw [List.mem_singleton.1 hx]
         refine ⟨e,?_,by simp,hy.1.mono hst,hy.2.mono hst⟩
         have:e∈lf:=hej'▸List.getElem_mem hj'
         rw [<-hlg] at this
         exact (List.mem_filter.1 this).1) (by simpa [Go.ChangeMaps.setBlock] using e5)
    refine ⟨.tuple #[.bool true,e.key,e.val],_,_,_,?_,hsw, .tup _ _ rfl (fun k hk=>?_),hk⟩
    · unfold execOp
      rw [hop]
      simp [hv,hrun]
    · match k,hk with
      | 0,_=>exact .bool _
      | 1,_=>exact hsw.2.rel hy.1
      | 2,_=>exact hsw.2.rel hy.2
   rcases hw1 with hw1 | hw1
   · rw [hw1] at hrun;exact hgo w rfl rfl rfl rfl (Nat.le_refl _) hrun
   · rw [hw1] at hrun;exact hgo w.drew rfl rfl rfl rfl (Nat.le_succ _) hrun
theorem DOp.entrym_ {x:Operand} {r:Nat} (hop:o.op = .entry x) (hx:f x = .raw (.pointer (some ⟨r,0,none⟩)))
  (h:OnG H r fun mr m left cur C=>∃ y,cur=[y]/\K (.tup [y.1,y.2]) H):DOp P o f H K:=by
 obtain ⟨mr,m,left,cur,L1,L2,rfl,y,rfl,hk⟩:=h
 refine DOp.step fun a w hs hr=>?_
 have hv:=hr x (by simp [hop,Op.operands])
 rw [hx] at hv
 have hv:a.eval x = .pointer (some ⟨r,0,none⟩):=by generalize a.eval x=v at hv;cases hv;rfl
 obtain ⟨es,clock,g1,g2,g3,g4,g5,seen,g6,g7,g8,g9⟩:=miter_of hs
 obtain ⟨e,e1,e2,e3,e4⟩:=g9 y (List.mem_singleton.2 rfl)
 have hn:(es.toList.map (·.born)).Nodup:=by
  rw [List.Nodup,List.pairwise_map]
  exact (born_nodup g4).imp fun h=>by omega
 have hf:es.find? (·.born==e.born)=some e:=by rw [<-Array.find?_toList];exact find_born e es.toList hn e1
 refine ⟨.tuple #[e.key,e.val],w,_,_,?_,⟨hs, .refl _ _⟩, .tup _ _ rfl (fun k hk=>?_),hk⟩
 · unfold execOp
   rw [hop]
   have hg1:(getObj r).run P w = .ok (.mapIter (some mr) clock seen clock) w:=by simp [getObj,Sem.run,g6]
   have hg2:(getObj mr).run P w = .ok (.map es clock) w:=by simp [getObj,Sem.run,g1]
   simp [Instr.entry,hv,hg1,hg2,e2,hf]
 · match k,hk with
   | 0,_=>exact e3
   | 1,_=>exact e4
end
end
end Go.Proofs.YtifdpbghkccaoaaGreatDoor
