/- strings.Builder wherever it lies: what it holds, and what is written to it, over data. No statement of the program. -/
import Derived.Test.YtphhijelneaedaaDoorEn
import Derived.Test.YtphhijelneaedaaDoorSbx
import Derived.Shelf.Strings.BuilderK
import Derived.Shelf.Strings.OnBuilder
import Derived.Shelf.Strconv.Itoa4
import Derived.Test.YtphhijelneaedaaDoorEu
import Derived.Sort.Grow
import Derived.Deep.Draws
namespace Go.Proofs.YtphhijelneaedaaDoor
open Go.RowKit Go.Shelf
set_option linter.unusedSimpArgs false
set_option linter.unusedVariables false
set_option linter.unusedSectionVars false
section
section
variable {P:Program} {ρ : Go.Shelf.Ren}
set_option maxHeartbeats 1000000 in
set_option maxRecDepth 100000 in
theorem copyCheck_used (L:Lays.n240 P ρ) (hsz:(P.info? (ρ.t 72)).map (·.size)=some 2) (b off:Nat) (w:World) (h0:w.cell? ⟨b,off,none⟩=some (.pointer (some ⟨b,off,none⟩))) :
  Calls P (ρ.f 240) #[.pointer (some ⟨b,off,none⟩)] w fun e w'=>e = .returned (.tuple #[])/\w'=w:=by
 obtain ⟨j,hj,_⟩:=Option.map_eq_some_iff.1 hsz
 have mixed:=L.mixed
 have t72:=L.t72;have a72:=L.a72;have z72:=L.z72;have v72:=L.v72;have u72:=run_underlying L.t72
 have t70:=L.t70;have a70:=L.a70;have z70:=L.z70;have v70:=L.v70;have u70:=run_underlying L.t70
 have t9:=L.t9;have a9:=L.a9;have z9:=L.z9;have v9:=L.v9;have u9:=run_underlying L.t9
 have t4:=L.t4;have a4:=L.a4;have z4:=L.z4;have v4:=L.v4;have u4:=run_underlying L.t4
 have t164:=L.t164;have a164:=L.a164;have z164:=L.z164;have v164:=L.v164;have u164:=run_underlying L.t164
 go_enter L.f240,Body.n240_ntmps ρ
 go_wp2
 rw [Lib.run_neq_ptr_same w ⟨b,off,none⟩ L.t70 hj]
 go_wp2
 go_end0
 exact ⟨rfl,rfl⟩
set_option maxHeartbeats 1000000 in
set_option maxRecDepth 100000 in
theorem copyCheck_fresh (L:Lays.n240 P ρ) (hsz:(P.info? (ρ.t 72)).map (·.size)=some 2) (b off:Nat) (w:World) (h0:w.cell? ⟨b,off,none⟩=some (.pointer none)) {T:TypeId} {k:Nat} (hsh:w.shape? b=some (T,k)) (hoff:off<k)
  (hl:liesAt P P.depth T (k / P.cellsOf T) off (ρ.t 72) 1=true) (hfz:w.frozen? ⟨b,off,none⟩=false) :
  Calls P (ρ.f 240) #[.pointer (some ⟨b,off,none⟩)] w fun e w'=>e = .returned (.tuple #[])/\w'=w.setCell ⟨b,off,none⟩ (.pointer (some ⟨b,off,none⟩)):=by
 obtain ⟨j,hj,hjs⟩:=Option.map_eq_some_iff.1 hsz
 have mixed:=L.mixed
 have t72:=L.t72;have a72:=L.a72;have z72:=L.z72;have v72:=L.v72;have u72:=run_underlying L.t72
 have t70:=L.t70;have a70:=L.a70;have z70:=L.z70;have v70:=L.v70;have u70:=run_underlying L.t70
 have t9:=L.t9;have a9:=L.a9;have z9:=L.z9;have v9:=L.v9;have u9:=run_underlying L.t9
 have t4:=L.t4;have a4:=L.a4;have z4:=L.z4;have v4:=L.v4;have u4:=run_underlying L.t4
 have t164:=L.t164;have a164:=L.a164;have z164:=L.z164;have v164:=L.v164;have u164:=run_underlying L.t164
 go_enter L.f240,Body.n240_ntmps ρ
 go_wp2
 rw [Lib.run_to_unsafe w ⟨b,off,none⟩ L.t70 L.t164 hj (by rw [hjs];decide) hsh hoff]
 simp only [Result.andThen]
 rw [Oper.upon_value]
 go_wp2
 rw [run_callFunc_extern L.f276 (by kernel_rfl) (by kernel_rfl) (by kernel_rfl) (e:=Extern.AbiNoEscape.same) (by kernel_rfl)]
 rw [Lib.run_noEscape]
 simp only [Result.andThen]
 rw [Oper.upon_value]
 go_wp2
 rw [Lib.run_from_unsafe w ⟨b,off,none⟩ L.t164 L.t70 hj hsh hl]
 simp only [Result.andThen]
 rw [Oper.upon_value]
 go_wp2
 go_end0
 exact ⟨rfl,rfl⟩
theorem string_atB (L:Lays.n169 P ρ) (t5:P.underlying (ρ.t 5)=some (.int .u8)) (b off n:Nat) (l:List UInt8) (a:Option Addr) (cap:Nat) (q:Option Addr) (w w1 w2:World) (c1:w.cell? ⟨b,off+1,none⟩=some (.slice a n cap)) (c2:w1.cell? ⟨b,off+1,none⟩=some (.slice a n cap))
  (hSD:(Builtin.unsafeSliceData_ #[(ρ.t 37)] (ρ.t 127) #[.slice a n cap]).run P w.drew = .ok (.pointer q) w1.drew) (hh:w1.drawn=w.drawn)
  (hUS:(Builtin.unsafeString_ #[(ρ.t 127),(ρ.t 3)] (ρ.t 9) #[.pointer q, .int .i64 n]).run P w1.drew = .ok (.string ⟨l.toArray⟩) w2) :
  Calls P (ρ.f 169) #[.pointer (some ⟨b,off,none⟩)] w fun e w'=>e = .returned (.string ⟨l.toArray⟩)/\w'=w2:=by
 have c3:w.drew.cell? ⟨b,off+1,none⟩=some (.slice a n cap):=c1
 have c4:w1.drew.cell? ⟨b,off+1,none⟩=some (.slice a n cap):=c2
 have mixed:=L.mixed
 have t72:=L.t72;have a72:=L.a72;have z72:=L.z72;have v72:=L.v72;have u72:=run_underlying L.t72
 have t70:=L.t70;have a70:=L.a70;have z70:=L.z70;have v70:=L.v70;have u70:=run_underlying L.t70
 have t37:=L.t37;have a37:=L.a37;have z37:=L.z37;have v37:=L.v37;have u37:=run_underlying L.t37
 have t127:=L.t127;have a127:=L.a127;have z127:=L.z127;have v127:=L.v127;have u127:=run_underlying L.t127
 have t3:=L.t3;have a3:=L.a3;have z3:=L.z3;have v3:=L.v3;have u3:=run_underlying L.t3
 have t9:=L.t9;have a9:=L.a9;have z9:=L.z9;have v9:=L.v9;have u9:=run_underlying L.t9
 go_enter L.f169,Body.n169_ntmps ρ
 go_wp2
 go_region_o
 all_goals (go_wp2;go_ret;exact ⟨rfl,rfl⟩)
end
theorem one_ofB {xs:Array Value} (h:xs.size=1):∃ a,xs = #[a]:=by
 obtain ⟨l⟩:=xs
 match l,h with
 | [a],_=>exact ⟨a,rfl⟩
theorem raw_val {S:Addr->Prop} {w:World} {v u:Value} (h:R S w v (.raw u)):v=u:=by cases h;rfl
theorem tb_of {w:World} {L1 L2:Own} {T:TypeId} {b:Nat} {cs:List V} (hs:Sim w (L1 ++ .tb T b cs::L2)):∃ xs fr,w.heap[b]? = some (.cells xs T fr)/\free fr 0 xs.size/\xs.size=cs.length/\(∀ k,k<cs.length->R (stable w (L1 ++ .tb T b cs::L2)) w (xs.getD k undef) (cs.getD k .any)) /\
  ∀ k,k<cs.length->w.cell? ⟨b,k,none⟩=some (xs.getD k undef)/\w.frozen? ⟨b,k,none⟩=false:=by
 obtain ⟨xs,fr,h1,h2,h3,h4⟩:=hs.holds (.tb T b cs) (by simp)
 refine ⟨xs,fr,h1,h2,h3,h4,fun k hk=>⟨?_,?_⟩⟩
 · have hk':k<xs.size:=by omega
   simp [World.cell?,h1,Array.getD_eq_getD_getElem?,hk']
 · have:=h2.at k (Nat.zero_le _) (by omega)
   simp [World.frozen?,h1]
   omega
def OnTb (H:Own) (b:Nat) (G:TypeId->List V->(Ent->Own)->Prop):Prop:=∃ T cs,On H (.tb T b cs) (G T cs)
theorem OnTb.here {H:Own} {T:TypeId} {b:Nat} {cs:List V} {G:TypeId->List V->(Ent->Own)->Prop} (h:G T cs fun x=>x::H):OnTb (.tb T b cs::H) b G:=⟨T,cs,On.here h⟩
theorem OnTb.next {H:Own} {b:Nat} {y:Ent} {G:TypeId->List V->(Ent->Own)->Prop} (h:OnTb H b fun T cs C=>G T cs fun x=>y::C x):OnTb (y::H) b G:=by
 obtain ⟨T,cs,h⟩:=h
 exact ⟨T,cs,On.next h⟩
def OnBa (H:Own) (v:Value) (G:TypeId->List UInt8->(Ent->Own)->Prop):Prop:=∃ T l,On H (.ba T v l) (G T l)
theorem OnBa.here {H:Own} {T:TypeId} {v:Value} {l:List UInt8} {G:TypeId->List UInt8->(Ent->Own)->Prop} (h:G T l fun x=>x::H):OnBa (.ba T v l::H) v G:=⟨T,l,On.here h⟩
theorem OnBa.next {H:Own} {v:Value} {y:Ent} {G:TypeId->List UInt8->(Ent->Own)->Prop} (h:OnBa H v fun T l C=>G T l fun x=>y::C x):OnBa (y::H) v G:=by
 obtain ⟨T,l,h⟩:=h
 exact ⟨T,l,On.next h⟩
section
variable {P:Program} {o:Oper} {f:Operand->V} {H:Own} {K:V->Own->Prop}
theorem DOp.loadT_ {t:TypeId} {x:Operand} {b off:Nat} (hop:o.op = .load t x) (hx:f x = .raw (.pointer (some ⟨b,off,none⟩))) (h:OnTb H b fun T cs _=>partS (ty P t) (cs.drop off) 0/\K (partV (ty P t) (cs.drop off) 0) H):DOp P o f H K:=by
 obtain ⟨T,cs,L1,L2,rfl,hp,hk⟩:=h
 refine DOp.step fun a w hs hr=>?_
 have hv:=raw_val (by have:=hr x (by simp [hop,Op.operands]);rw [hx] at this;exact this)
 obtain ⟨xs,fr,h1,h2,h3,h4,h5⟩:=tb_of hs
 obtain ⟨v,e1,e2⟩:=loadVar_run (P:=P) (S:=stable w (L1 ++ .tb T b cs::L2)) (w:=w) (t:=t) (b:=⟨b,off,none⟩) (cs:=cs.drop off) rfl (fun k hk=>by
  rw [List.length_drop] at hk
  simp only
  rw [(h5 (off+k) (by omega)).1];rfl) (fun k hk=>by
  rw [List.length_drop] at hk
  have:=h4 (off+k) (by omega)
  simp only
  rw [cellAt,(h5 (off+k) (by omega)).1]
  simpa [List.getD_eq_getElem?_getD,List.getElem?_drop] using this) hp
 refine ⟨v,w,_,_,?_,⟨hs, .refl _ _⟩,e2,hk⟩
 unfold execOp
 rw [hop]
 simp [Instr.loadAt,hv,Instr.sureAddr,e1]
theorem DOp.storeT_ {t:TypeId} {p x:Operand} {b off:Nat} (hop:o.op = .store t p x) (hp:f p = .raw (.pointer (some ⟨b,off,none⟩)))
  (h:OnTb H b fun T cs C=>(f x).solid=true/\(f x).cs.all V.one=true/\(ty P t).kind≠0/\(ty P t).kind≠11/\(f x).cs.length=(ty P t).size/\off+(ty P t).size<=cs.length/\K .any (C (.tb T b (layV cs off (f x).cs)))):DOp P o f H K:=by
 obtain ⟨T,cs,L1,L2,rfl,h1,h2,h3,h4,h5,h6,hk⟩:=h
 refine DOp.skip_ fun a w hs hr=>?_
 have hv:=raw_val (by have:=hr p (by simp [hop,Op.operands]);rw [hp] at this;exact this)
 have hx:=hr x (by simp [hop,Op.operands])
 obtain ⟨c1,c2⟩:=hx.solid h1
 obtain ⟨xs,fr,g1,g2,g3,g4,g5⟩:=tb_of hs
 have hone:∀ u∈(a.eval x).cells.toList,u.oneCell'=true:=fun u hu=>by
  obtain ⟨i,hi,rfl⟩:=List.getElem_of_mem hu
  have hi':i<(a.eval x).cells.size:=by simpa using hi
  have:=c2 i (by omega)
  have h1':=List.all_eq_true.1 h2 ((f x).cs[i]'(by omega)) (List.getElem_mem _)
  have e:(f x).cs.getD i .any=(f x).cs[i]'(by omega):=by
   have:i<(f x).cs.length:=by omega
   simp [List.getD_eq_getElem?_getD,this]
  rw [e] at this
  have:=one_cell this h1'
  simpa [Array.getD_eq_getD_getElem?,hi'] using this
 have hrun:=run_storeCells_cells (P:=P) b off (a.eval x).cells.toList 0 w (fun j hj=>by
  simp only [Array.length_toList] at hj
  rw [Nat.add_zero,(g5 (off+j) (by omega)).1];rfl) (fun j hj=>by
  simp only [Array.length_toList] at hj
  rw [Nat.add_zero];exact (g5 (off+j) (by omega)).2) hone
 rw [Nat.add_zero] at hrun
 obtain ⟨ys,y1,y2,y3⟩:=setCells_row b (a.eval x).cells.toList off w xs T fr g1 (by simp;omega)
 obtain ⟨r1,r2,r3⟩:=setCells_rest b (a.eval x).cells.toList off w
 obtain ⟨l1,l2⟩:=lay_at cs (f x).cs off (by omega)
 refine ⟨w.setCells b off (a.eval x).cells.toList,_,?_,Sim.swap hs (e1:=.tb T b (layV cs off (f x).cs)) r1 r2 r3 (by rw [setCells_size];exact Nat.le_refl _) (fun k hk hn=>setCells_other b _ _ _ k fun e=>hn e) (fun q hq hn=>World.cell?_setCells_out b _ _ _ q fun e _=>absurd e hn)
  (fun k h=>.inl h) (fun q h=>.inl h) (fun hst=>?_),hk⟩
 · unfold execOp
   rw [hop]
   simp [Instr.storeAt,hv,Instr.sureAddr,storeVar,run_sizeOf h3 h4,c1,h5,hrun]
 · refine ⟨ys,fr,y1,by rw [y2];exact g2,by rw [y2,g3,l1],fun k hk=>?_⟩
   rw [y3 k,l2 k]
   rw [l1] at hk
   simp only [Array.length_toList]
   by_cases hk':off<=k/\k<off+(f x).cs.length
   · rw [if_pos hk',if_pos (by omega)]
     have:=(c2 (k - off) (by omega)).mono hst
     simpa [Array.getD_eq_getD_getElem?,List.getD_eq_getElem?_getD] using this
   · rw [if_neg hk',if_neg (by omega)]
     exact (g4 k hk).mono hst
theorem u8_val {S:Addr->Prop} {w:World} {v:Value} {b:UInt8} (h:R S w v (u8 b)):v = .int .u8 ((b.toNat:Nat):Int):=by unfold u8 at h;cases h;rfl
theorem news_u8 {S:Addr->Prop} {w:World} {news:List Value} {xs:List UInt8} (h:∀ i k,i<(xs.map u8).length->k<1->R S w (news.getD (i * 1+k) undef) (((xs.map u8).getD i .any).cell k)):∀ i,i<xs.length->news.getD i undef = .int .u8 (((xs.getD i 0).toNat:Nat):Int):=fun i hi=>by
 have:=h i 0 (by simpa using hi) (by decide)
 have e:((xs.map u8).getD i .any).cell 0=u8 (xs.getD i 0):=by
  simp [List.getD_eq_getElem?_getD,hi];rfl
 rw [Nat.mul_one,Nat.add_zero,e] at this
 exact u8_val this
theorem app_getD (l xs:List UInt8) (k:Nat):(l++xs).getD k 0=if k<l.length then l.getD k 0 else xs.getD (k - l.length) 0:=by
 simp only [List.getD_eq_getElem?_getD]
 split
 · rename_i h;rw [List.getElem?_append_left h]
 · rename_i h;rw [List.getElem?_append_right (by omega)]
def AppB (P:Program) (sT xT T:TypeId) (l xs:List UInt8):Prop :=
 (ty P sT).kind=4/\(ty P sT).elem=T/\(ty P T).kind=2/\(ty P xT).kind≠0/\(ty P xT).kind≠11/\(ty P xT).kind≠2/\(ty P T).size=1/\(ty P T).zero=[.int .u8 0]/\(ty P T).bytes=1/\l.length+xs.length<=140737488355328
theorem DOp.appba_ {s x:Operand} {sT xT:TypeId} {v:Value} {n:Nat} {xs:List UInt8} (hop:o.op = .call { callee:=.builtin .append,args:=#[s,x],argTypes:=#[sT,xT] }) (hfs:f s = .ar v n) (hfx:srcL (f x)=some (xs.map u8))
  (h:OnBa H v fun T l C=>AppB P sT xT T l xs/\∀ v',K (.ar v' (l++xs).length) (C (.ba T v' (l++xs)))):DOp P o f H K:=by
 obtain ⟨E,l,L1,L2,rfl,⟨hA0,hE,hA1,hA3,hA4,hA5,hsz,hz0,hby,hlen⟩,hk⟩:=h
 refine DOp.step fun a w hs hr=>?_
 have hS:∀ q,stable w (L1 ++ .ba E v l::L2) q->(w.cell? q).isSome=true:=fun q hq=>hq.1
 have hvs:=hr s (by simp [hop,Op.operands,Call.operands])
 rw [hfs] at hvs
 generalize hvv:a.eval s=u at hvs
 cases hvs with
 | ar base n cap hcap hnil =>
 have hxu:∀ y∈xs.map u8,y.n=1:=fun y hy=>by obtain ⟨c,_,rfl⟩:=List.mem_map.1 hy;rfl
 obtain ⟨x1,news,x2,x3,x4⟩:=src_run (P:=P) hS (hr x (by simp [hop,Op.operands,Call.operands])) hfx hxu
 have x5:=news_u8 x4
 rw [List.length_map] at x1 x2 x3
 rw [Nat.mul_one] at x3
 have hu:=und_slice hA0
 rw [hE] at hu
 have hEsz:(sizeOf E).run P w = .ok 1 w:=by rw [run_sizeOf (by rw [hA1];decide) (by rw [hA1];decide),hsz]
 obtain ⟨dx,hdx,hdi⟩:=not_int (w:=w) hA3 hA4 hA5
 have hm:(dx matches .int _)=false:=by cases dx<;>first | rfl | exact absurd rfl (hdi _)
 have hholds:=hs.holds (.ba E (.slice base n cap) l) (by simp)
 have hnl:n=l.length:=by
  cases base with
  | none=>obtain ⟨t1,_,t3⟩:=hholds;rw [t1,t3];rfl
  | some b=>exact hholds.2.1
 by_cases hfit:n+xs.length<=cap
 · cases base with
   | none =>
    obtain ⟨t1,t2,t3⟩:=hholds
    subst t1
    subst t2
    subst t3
    have hx0:xs=[]:=List.eq_nil_of_length_eq_zero (by omega)
    subst hx0
    refine ⟨_,w, .ar (.slice none 0 0) 0,_,?_,⟨hs, .refl _ _⟩, .ar _ _ _ (Nat.le_refl _) (fun _=>rfl),by simpa using hk (.slice none 0 0)⟩
    unfold execOp
    rw [hop]
    have hn0:news=[]:=List.eq_nil_of_length_eq_zero (by simpa using x3)
    subst hn0
    have x1':(Builtin.lenOf (a.eval x)).run P w = .ok 0 w:=x1
    have x2':(Builtin.firstCells 1 0 (a.eval x)).run P w = .ok #[] w:=x2
    simp [resolve,invoke,Go.builtin,Builtin.append_,hvv,run_underlying hu,run_underlying hdx,hm,hEsz,x1',x2']
   | some b =>
    obtain ⟨⟨s0,s1⟩,_,hnc,hcz,ys,fr,g1,g2,g3,g4⟩:=hholds
    obtain ⟨bb,bo,bs'⟩:=b
    simp only at s0 s1
    subst s0
    subst s1
    simp only at g1
    have hcell:∀ k,k<ys.size->w.cell? ⟨bb,k,none⟩=some (ys.getD k undef)/\w.frozen? ⟨bb,k,none⟩=false:=fun k hk=>⟨by simp [World.cell?,g1,Array.getD_eq_getD_getElem?,hk],frozen_of g1 (by omega)⟩
    have hone:∀ u∈news,u.oneCell'=true:=fun u hu'=>by
     obtain ⟨j,hj,rfl⟩:=List.getElem_of_mem hu'
     have:=x5 j (by omega)
     have e3:news.getD j undef=news[j]:=by simp [List.getD_eq_getElem?_getD,hj]
     rw [e3] at this
     rw [this];rfl
    have hrun:=run_storeCells_cells (P:=P) bb n news 0 w (fun j hj=>by
     rw [Nat.add_zero,(hcell (n+j) (by omega)).1];rfl) (fun j hj=>by
     rw [Nat.add_zero];exact (hcell (n+j) (by omega)).2) hone
    rw [Nat.add_zero] at hrun
    obtain ⟨zs,z1,z2,z3⟩:=setCells_row bb news n w ys E fr g1 (by omega)
    obtain ⟨r1,r2,r3⟩:=setCells_rest bb news n w
    have hsw:=Sim.swap (w':=w.setCells bb n news) hs (e1:=.ba E (.slice (some ⟨bb,0,none⟩) (n+xs.length) cap) (l++xs)) r1 r2 r3 (by rw [setCells_size];exact Nat.le_refl _)
     (fun k hk hn=>setCells_other bb _ _ _ k fun e=>hn e) (fun q hq hn=>World.cell?_setCells_out bb _ _ _ q fun e1 e2=>absurd e1 hn)
     (fun k h=>.inl h) (fun q h=>.inl h) (fun hst=>⟨⟨rfl,rfl⟩,by rw [List.length_append];omega,hfit,hcz,zs,fr,z1,g2,by rw [z2];exact g3,fun k hk=>by
       rw [z3,app_getD]
       rw [List.length_append] at hk
       by_cases hkc:k<l.length
       · rw [if_neg (by omega),if_pos hkc];exact g4 k hkc
       · rw [if_pos (by omega),if_neg hkc,hnl]
         exact x5 (k - l.length) (by omega)⟩)
    have hle:(l++xs).length=n+xs.length:=by rw [List.length_append];omega
    refine ⟨_,_, .ar (.slice (some ⟨bb,0,none⟩) (n+xs.length) cap) (n+xs.length),_,?_,hsw, .ar _ _ _ hfit (fun h=>nomatch h),by rw [<-hle];exact hk _⟩
    unfold execOp
    rw [hop]
    have hadd:(⟨bb,0,none⟩:Addr).add n=⟨bb,n,none⟩:=by rw [addr_add _ _ rfl];simp
    simp [resolve,invoke,Go.builtin,Builtin.append_,hvv,run_underlying hu,run_underlying hdx,hm,hEsz,x1,x2,hfit,hadd,hrun]
 · have hneed:cap<n+xs.length:=by omega
   have hgrow:=growslice_fits (bytes:=1) hneed (by omega)
   obtain ⟨i,d',hi,_,_,_,hby',hz⟩:=ty_info (t:=E) rfl (by rw [hA1];decide) (by rw [hA1];decide)
   rw [hby] at hby'
   cases hzz:i.zero with
   | none=>rw [hzz,hz0] at hz;simp at hz
   | some z =>
    obtain ⟨zr1,zr2⟩:=zero_rel (P:=P) (S:=stable w (L1 ++ .ba E (.slice base n cap) l::L2)) (w:=w) hi hzz hz
    have hzr:∀ w,(zeroValue E).run P w = .ok z w:=fun w=>by simp [zeroValue,typeInfo,program,Sem.run,hi,hzz]
    have hti:∀ w,(typeInfo E).run P w = .ok i w:=fun w=>by simp [typeInfo,program,Sem.run,hi]
    have hold:∃ olds:List Value,(Builtin.firstCells 1 n (.slice base n cap)).run P w.drew = .ok olds.toArray w.drew/\olds.length=n/\∀ j,j<n->olds.getD j undef = .int .u8 (((l.getD j 0).toNat:Nat):Int):=by
     cases base with
     | none =>
      obtain ⟨t1,t2,t3⟩:=hholds
      subst t1
      exact ⟨[],by simp [Builtin.firstCells],by simp,fun i hi=>by simp at hi⟩
     | some b =>
      obtain ⟨⟨s0,s1⟩,_,hnc,hcz,ys,fr,g1,g2,g3,g4⟩:=hholds
      refine ⟨(List.range n).map fun j=>ys.getD j undef,?_,by simp,fun j hj=>by simpa [List.getD_eq_getElem?_getD,hj] using g4 j (by omega)⟩
      refine run_firstCells_some (P:=P) w.drew 1 n b n cap _ (by simp) fun j u hj=>?_
      have hj':j<n:=by
       have:=(List.getElem?_eq_some_iff.1 hj).1
       simpa using this
      rw [addr_add b j s1,s0,Nat.zero_add]
      rw [List.getElem?_map] at hj
      simp [hj'] at hj
      rw [World.cell?_drew,<-hj]
      have hjs:j<ys.size:=by omega
      simp [World.cell?,g1,Array.getD_eq_getD_getElem?,hjs]
    obtain ⟨olds,o1,o2,o3⟩:=hold
    have hdr:=hs.drew
    obtain ⟨_,news',x2',x3',x4'⟩:=src_run (P:=P) (fun q (hq:stable w.drew _ q)=>hq.1) (hdr.2.rel (hr x (by simp [hop,Op.operands,Call.operands]))) hfx hxu
    have x5':=news_u8 x4'
    rw [List.length_map] at x2' x3'
    rw [Nat.mul_one] at x3'
    have hge:=grownCap_ge w (n+xs.length) cap E
    generalize hcapn:grownCap w (n+xs.length) cap E=newCap at *
    have hrest:=size_zeroCells z.cells (newCap - (n+xs.length))
    generalize hrs:Builtin.zeroCells z.cells (newCap - (n+xs.length))=rest at *
    have hzc:z.cells.size=1:=zr1.trans (by rw [hz0];rfl)
    have hsize:(olds.toArray++news'.toArray++rest).size=newCap:=by
     simp only [Array.size_append,List.size_toArray,o2,x3',hrest,hzc,Nat.mul_one]
     omega
    have hv1:∀ j,j<n->(olds.toArray++news'.toArray++rest).getD j undef=olds.getD j undef:=fun j hj=>by
     simp only [Array.getD_eq_getD_getElem?,List.getD_eq_getElem?_getD]
     rw [Array.append_assoc,Array.getElem?_append_left (by simp;omega)]
     simp
    have hv2:∀ j,j<xs.length->(olds.toArray++news'.toArray++rest).getD (n+j) undef=news'.getD j undef:=fun j hj=>by
     simp only [Array.getD_eq_getD_getElem?,List.getD_eq_getElem?_getD]
     rw [Array.append_assoc,Array.getElem?_append_right (by simp;omega),Array.getElem?_append_left (by simp;omega)]
     simp [o2]
    generalize hA:olds.toArray++news'.toArray++rest=row at *
    have hle:(l++xs).length=n+xs.length:=by rw [List.length_append];omega
    have hsw:=Sim.swap (w':=w.drew.alloc (.cells row E)) hs (e1:=.ba E (.slice (some ⟨w.heap.size,0,none⟩) (n+xs.length) newCap) (l++xs)) rfl rfl rfl (by simp) (fun b hb _=>Below.heap_alloc w.drew _ b hb)
     (fun q hq _=>by
       obtain ⟨u,hu⟩:=Option.isSome_iff_exists.1 hq
       exact World.cell?_of_block (w:=w) (Below.heap_alloc w.drew _ q.block (World.block_lt_of_cell? w q hu)))
     (fun b h=>.inr (Nat.le_of_eq h.symm)) (fun q h=>.inr (Nat.le_of_eq h.symm)) (fun hst=>⟨⟨rfl,rfl⟩,hle.symm,hge,by omega,row,(0,0),heap_alloc_new w.drew _,rfl,hsize,fun k hk=>by
       rw [app_getD]
       rw [hle] at hk
       by_cases hkc:k<l.length
       · rw [if_pos hkc,hv1 k (by omega)];exact o3 k (by omega)
       · have e:=hv2 (k - l.length) (by omega)
         rw [show n+(k - l.length)=k by omega] at e
         rw [if_neg hkc,e]
         exact x5' (k - l.length) (by omega)⟩)
    refine ⟨.slice (some ⟨w.heap.size,0,none⟩) (n+xs.length) newCap,w.drew.alloc (.cells row E), .ar _ (n+xs.length),_,?_,hsw, .ar _ _ _ hge (fun h=>nomatch h),by rw [<-hle];exact hk _⟩
    unfold execOp
    rw [hop]
    have hg2:¬ 281474976710656<Builtin.nextslicecap (n+xs.length) cap * i.bytes:=by rw [<-hby'];omega
    have hzd:(zeroValue E).run P w.drew = .ok z w.drew:=hzr w.drew
    have htd:(typeInfo E).run P w.drew = .ok i w.drew:=hti w.drew
    have hask:(askRoom (newCap * i.bytes)).run P w.drew = .ok () w.drew:=by unfold askRoom;split<;>rfl
    unfold grownCap at hcapn
    simp [resolve,invoke,Go.builtin,Builtin.append_,hvv,run_underlying hu,run_underlying hdx,hm,hEsz,x1,hfit,hti,hg2,Question.forced,hcapn,hask,o1,x2',hzd,hrs,newRow]
    rw [if_neg fun h=>by have:=h.1;omega,<-hA,Array.append_assoc]
end
def selfP (b off:Nat) (u:Bool):V:=.raw (.pointer (if u=true then some ⟨b,off,none⟩ else none))
theorem lay_samB {cs:List V} {off:Nat} {x:V} (h:cs.getD off .any=x) (hl:off<cs.length):layV cs off [x]=cs:=by
 subst h
 unfold layV
 rw [List.getD_eq_getElem?_getD,List.getElem?_eq_getElem hl]
 simp
section
variable {P:Program} {ρ : Go.Shelf.Ren}
theorem DC.ccheck (L:Lays.n240 P ρ) (he:enterB P (ρ.f 240)=true) (hsz:(P.info? (ρ.t 72)).map (·.size)=some 2) (T:TypeId) (b off:Nat) (cs:List V) (u:Bool) (F:Own)
  (h:cs.getD off .any=selfP b off u/\off<cs.length/\liesAt P P.depth T (cs.length / P.cellsOf T) off (ρ.t 72) 1=true) :
  DC P (ρ.f 240) [.raw (.pointer (some ⟨b,off,none⟩))] ([.tb T b cs]++F) fun d G=>d = .tup []/\G=[.tb T b (layV cs off [selfP b off true])]++F:=by
 obtain ⟨h1,h2,h3⟩:=h
 refine ⟨he,fun xs w hs hz hr=>?_⟩
 have h0:=hr 0 (by simp)
 obtain ⟨x0,rfl⟩:=one_ofB hz
 have e0:x0 = .pointer (some ⟨b,off,none⟩):=raw_val (S:=stable w ([.tb T b cs]++F)) (w:=w) h0
 subst e0
 obtain ⟨ys,fr,g1,g2,g3,g4,g5⟩:=tb_of (L1:=[]) hs
 obtain ⟨c1,c2⟩:=g5 off h2
 have hv:=g4 off h2
 rw [h1] at hv
 have hv:=raw_val hv
 cases u with
 | true =>
  rw [hv] at c1
  refine (copyCheck_used L hsz b off w c1).mono ?_
  rintro e w' ⟨rfl,rfl⟩
  rw [lay_samB h1 h2]
  exact ⟨_, .tup [],_,rfl,hs, .refl _ _, .tup _ _ rfl (fun k hk=>absurd hk (by simp)),rfl,rfl⟩
 | false =>
  rw [hv] at c1
  refine (copyCheck_fresh L hsz b off w c1 (T:=T) (k:=ys.size) (by simp [World.shape?,g1]) (by omega) (by rw [g3];exact h3) c2).mono ?_
  rintro e w' ⟨rfl,rfl⟩
  obtain ⟨zs,y1,y2,y3⟩:=setCells_row b [.pointer (some ⟨b,off,none⟩)] off w ys T fr g1 (by simp;omega)
  obtain ⟨r1,r2,r3⟩:=setCells_rest b [.pointer (some ⟨b,off,none⟩)] off w
  obtain ⟨l1,l2⟩:=lay_at cs [selfP b off true] off (by simp;omega)
  have sw:=Sim.swap (w':=w.setCells b off [.pointer (some ⟨b,off,none⟩)]) (L1:=[]) hs (e1:=.tb T b (layV cs off [selfP b off true])) r1 r2 r3 (by rw [setCells_size];exact Nat.le_refl _) (fun k hk hn=>setCells_other b _ _ _ k fun e=>hn e)
   (fun q hq hn=>World.cell?_setCells_out b _ _ _ q fun e _=>absurd e hn) (fun k h=>.inl h) (fun q h=>.inl h) (fun hst=>by
     refine ⟨zs,fr,y1,by rw [y2];exact g2,by rw [y2,g3,l1],fun k hk=>?_⟩
     rw [y3 k,l2 k]
     rw [l1] at hk
     by_cases hk':off<=k/\k<off+1
     · rw [if_pos (by simpa using hk'),if_pos (by simpa using hk'),show k - off=0 by omega]
       exact .raw _
     · rw [if_neg (by simpa using hk'),if_neg (by simpa using hk')]
       exact (g4 k hk).mono hst)
  exact ⟨_, .tup [],_,rfl,sw.1,sw.2, .tup _ _ rfl (fun k hk=>absurd hk (by simp)),rfl,rfl⟩
theorem DC.bstring (L:Lays.n169 P ρ) (X:Builder.Extra P ρ) (he:enterB P (ρ.f 169)=true) (T:TypeId) (b off:Nat) (cs:List V) (v:Value) (l:List UInt8) (F:Own)
  (h:cs.getD (off+1) .any = .ar v l.length/\off+1<cs.length/\l.length<=140737488355328) :
  DC P (ρ.f 169) [.raw (.pointer (some ⟨b,off,none⟩))] ([.tb T b cs, .ba (ρ.t 5) v l]++F) fun d G=>d = .str l/\G=[.tb T b cs]++F:=by
 obtain ⟨h1,h2,h3⟩:=h
 refine ⟨he,fun xs w hs hz hr=>?_⟩
 have h0:=hr 0 (by simp)
 obtain ⟨x0,rfl⟩:=one_ofB hz
 have e0:x0 = .pointer (some ⟨b,off,none⟩):=raw_val (S:=stable w ([.tb T b cs, .ba (ρ.t 5) v l]++F)) (w:=w) h0
 subst e0
 obtain ⟨ys,fr,g1,g2,g3,g4,g5⟩:=tb_of (L1:=[]) hs
 obtain ⟨c1,c2⟩:=g5 (off+1) h2
 have hv:=g4 (off+1) h2
 rw [h1] at hv
 generalize ys.getD (off+1) undef=y at hv c1
 generalize hn:l.length=n at hv h3
 cases hv with
 | ar a _ cap hcap hnil =>
 have hh:=hs.holds (.ba (ρ.t 5) (.slice a n cap) l) (by simp)
 have bsl:(⟨l.toArray⟩:ByteArray)=bs l:=rfl
 have last:∀ w2,(Sim w2 (.tb T b cs::F)/\Ext w ([.tb T b cs, .ba (ρ.t 5) (.slice a n cap) l]++F) w2 (.tb T b cs::F))->∀ (e:Ending) (w':World),(e = .returned (.string ⟨l.toArray⟩)/\w'=w2) ->
   ∃ v d H',e = .returned v/\Sim w' H'/\Ext w ([.tb T b cs, .ba (ρ.t 5) (.slice a n cap) l]++F) w' H'/\R (stable w' H') w' v d/\d = .str l/\H'=[.tb T b cs]++F:=by
  rintro w2 ⟨k1,k2⟩ e w' ⟨rfl,rfl⟩
  exact ⟨_,_,_,rfl,k1,k2, .str l,rfl,rfl⟩
 have drew:Sim w.drew (.tb T b cs::F)/\Ext w ([.tb T b cs, .ba (ρ.t 5) (.slice a n cap) l]++F) w.drew (.tb T b cs::F):=by
  obtain ⟨d1,d2⟩:=hs.drew
  exact ⟨d1.drop (by simp),d2.trans (Ext.drop (by simp +contextual))⟩
 have t5:P.underlying (ρ.t 5)=some (.int .u8):=X.t5
 cases a with
 | none =>
  obtain ⟨q1,q2,q3⟩:=hh
  subst q1;subst q2;subst q3
  exact (string_atB L t5 b off 0 [] none 0 none w w w.drew c1 c1 rfl rfl (Any.unsafeString_none L X w.drew none)).mono (last _ drew)
 | some p =>
  obtain ⟨⟨s0,s1⟩,q1,q2,q3,zs,fz,z1,z2,z3,z4⟩:=hh
  obtain ⟨g,po,ps⟩:=p
  simp only at s0 s1
  subst s0
  subst s1
  simp only at z1
  have hSD:(Builtin.unsafeSliceData_ #[(ρ.t 37)] (ρ.t 127) #[.slice (some ⟨g,0,none⟩) n cap]).run P w.drew = .ok (.pointer (some ⟨g,0,none⟩)) w.drew:=Lib.run_unsafeSliceData_row _ _ _ _ _ _ q3
  by_cases hl:l=[]
  · subst hl
    have hn0:n=0:=hn.symm
    subst hn0
    exact (string_atB L t5 b off 0 [] (some ⟨g,0,none⟩) cap (some ⟨g,0,none⟩) w w w.drew c1 c1 hSD rfl (Any.unsafeString_none L X w.drew _)).mono (last _ drew)
  · have hUS:(Builtin.unsafeString_ #[(ρ.t 127),(ρ.t 3)] (ρ.t 9) #[.pointer (some ⟨g,0,none⟩), .int .i64 n]).run P w.drew = .ok (.string ⟨l.toArray⟩) (w.drew.freeze ⟨g,0,none⟩ n):=by
     rw [<-hn]
     refine Lib.run_unsafeString_row w.drew (ρ.t 127) (ρ.t 3) (ρ.t 9) (ρ.t 5) L.t127 X.cellsByte g zs.size (by have hg':w.drew.heap[g]? = some (.cells zs (ρ.t 5) fz):=z1;simp [World.shape?,hg']) l hl (by omega) (by omega) ?_
     intro j x hx
     have hj:j<l.length:=(List.getElem?_eq_some_iff.1 hx).1
     have e1:=z4 j hj
     have e2:l.getD j 0=x:=by rw [List.getD_eq_getElem?_getD,hx];rfl
     rw [e2] at e1
     have hjs:j<zs.size:=by omega
     rw [addr_mk,Nat.zero_add,World.cell?_drew]
     rw [<-e1]
     simp [World.cell?,z1,Array.getD_eq_getD_getElem?,hjs]
    refine (string_atB L t5 b off n l (some ⟨g,0,none⟩) cap (some ⟨g,0,none⟩) w w _ c1 c1 hSD rfl hUS).mono (last _ ?_)
    have sw:=Sim.swap (w':=w.drew.freeze ⟨g,0,none⟩ n) (L1:=[.tb T b cs]) (L2:=F) (e0:=.ba (ρ.t 5) (.slice (some ⟨g,0,none⟩) n cap) l) (e1:=.tail 1 (.slice none 0 0)) hs (by unfold World.freeze;split<;>rfl) (by unfold World.freeze;split<;>rfl) (by unfold World.freeze;split<;>rfl) (by rw [size_freeze];exact Nat.le_refl _)
     (fun k hk hn'=>heap_freeze_ne w.drew _ _ _ hn') (fun q hq hn'=>cell_freeze w.drew _ _ _) (fun k h=>h.elim) (fun q h=>h.elim) (fun _=>⟨rfl,rfl⟩) (by rw [drawn_freeze];exact Nat.le_succ _)
    exact ⟨sw.1.drop (by simp),sw.2.trans (Ext.drop (by simp +contextual))⟩
theorem DC.join (L:Lays.n156 P ρ) (X:Builder.Extra P ρ) (he:enterB P (ρ.f 156)=true) (ws:List (List UInt8)) (sep:List UInt8) (F:Own) (h:ws.length<=1000000/\(Lib.join ws sep).length<=140737488355328) :
  DC P (ρ.f 156) [.sl (ws.map V.str), .str sep] ([loose]++F) fun d G=>d = .str (Lib.join ws sep)/\G=[loose]++F:=by
 obtain ⟨h1,h2⟩:=h
 refine ⟨he,fun xs w hs hz hr=>?_⟩
 have h0:=hr 0 (by simp)
 have h1':=hr 1 (by simp)
 obtain ⟨x0,x1,rfl⟩:∃ a b,xs = #[a,b]:=by
  obtain ⟨l⟩:=xs
  match l,hz with
  | [a,b],_=>exact ⟨a,b,rfl⟩
 have h0:R (stable w ([loose]++F)) w x0 (.sl (ws.map V.str)):=h0
 have e1:x1 = .string (bs sep):=by
  have h1':R (stable w ([loose]++F)) w x1 (.str sep):=h1'
  cases h1';rfl
 subst e1
 obtain ⟨a,cap,sz,rfl,hc,hn,b1,b2,b3,b4⟩:=h0.slc
 rw [List.length_map] at hc b2 b3 b4 ⊢
 have bsb:∀ x:List UInt8,(bs x).data.toList=x:=fun x=>by simp [bs]
 have fin:∀ (e:Ending) (w':World),(e = .returned (.string ⟨(Lib.join ws sep).toArray⟩)/\Below w.heap.size w w') ->
   ∃ v d H',e = .returned v/\Sim w' H'/\Ext w ([loose]++F) w' H'/\R (stable w' H') w' v d/\d = .str (Lib.join ws sep)/\H'=[loose]++F:=by
  rintro e w' ⟨rfl,hb⟩
  obtain ⟨k1,k2⟩:=hs.moreL (by simp) hb
  exact ⟨_,_,_,rfl,k1,k2, .str _,rfl,rfl⟩
 by_cases hw:ws=[]
 · subst hw
   refine (Any.strings_Join_none L X a cap (bs sep) w).mono ?_
   rintro e w' ⟨rfl,rfl⟩
   exact fin _ _ ⟨rfl,Below.refl _ _⟩
 · cases a with
   | none=>exact absurd (List.map_eq_nil_iff.1 (hn rfl)) hw
   | some p =>
    have hsp:=b1 p rfl (fun e=>hw (List.map_eq_nil_iff.1 e))
    obtain ⟨bk,o,ps⟩:=p
    simp only at hsp
    subst hsp
    have hsz:sz=1:=by
     have hpos:0<ws.length:=List.length_pos_iff.2 hw
     have:=b2 0 hpos
     rw [<-this]
     simp [List.getD_eq_getElem?_getD,hpos];rfl
    subst hsz
    have cel:∀ (j:Nat) x,(ws.map bs)[j]? = some x->w.cell? ⟨bk,o+j,none⟩=some (.string x):=fun j x hx=>by
     rw [List.getElem?_map] at hx
     cases hj:ws[j]? with
     | none=>rw [hj] at hx;simp at hx
     | some y =>
      rw [hj] at hx
      simp only [Option.map_some,Option.some.injEq] at hx
      subst hx
      have hlt:j<ws.length:=(List.getElem?_eq_some_iff.1 hj).1
      have s3:=(b3 ⟨bk,o,none⟩ j 0 rfl hlt (by decide)).1
      have s4:=b4 ⟨bk,o,none⟩ j 0 rfl hlt (by decide)
      simp only [Nat.mul_one,Nat.add_zero] at s3 s4
      have e2:((ws.map V.str).getD j .any).cell 0 = .str y:=by
       rw [List.getD_eq_getElem?_getD,List.getElem?_map,hj];rfl
      rw [e2] at s4
      unfold cellAt at s4
      cases hcc:w.cell? ⟨bk,o+j,none⟩ with
      | none=>rw [hcc] at s3;cases s3
      | some u =>
       rw [hcc] at s4
       have s4:R (stable w ([loose]++F)) w u (.str y):=s4
       cases s4;rfl
    have hbk:bk<w.heap.size:=(b3 ⟨bk,o,none⟩ 0 0 rfl (List.length_pos_iff.2 hw) (by decide)).lt
    have e3:(ws.map bs).map (·.data.toList)=ws:=by rw [List.map_map];exact (List.map_congr_left fun x _=>bsb x).trans (List.map_id ws)
    have:=Any.strings_Join L X bk o cap (ws.map bs) (bs sep) w cel hbk (by rw [List.length_map];omega) (by rw [List.length_map];exact hc) (by rw [e3,bsb];exact h2)
    rw [e3,bsb,List.length_map] at this
    exact this.mono fin
def pow10O (T:TypeId) (fr:Nat×Nat):Obj:=.cells ((Lib.pow10Tab.map fun z=>Value.int .u64 z).toArray) T fr
theorem DC.itoa (L:LaysM.n171 P ρ) (he:enterB P (ρ.f 171)=true) {g:Nat} (hg:P.globalNamed "internal/strconv.uint64pow10" = some g) (T:TypeId) (fr:Nat×Nat) (n:Int) (F:Own) (h : -9223372036854775808<=n/\n<=9223372036854775807) :
  DC P (ρ.f 171) [.int .i64 n] ([.row g (pow10O T fr)]++F) fun d G=>d = .str (Lib.itoa n)/\G=[.row g (pow10O T fr)]++F:=by
 refine ⟨he,fun xs w hs hz hr=>?_⟩
 have h0:=hr 0 (by simp)
 obtain ⟨x0,rfl⟩:=one_ofB hz
 have e0:x0 = .int .i64 n:=by
  have h0:R (stable w ([.row g (pow10O T fr)]++F)) w x0 (.int .i64 n):=h0
  cases h0;rfl
 subst e0
 have hh:w.heap[g]? = some (pow10O T fr):=hs.holds (.row g (pow10O T fr)) (by simp)
 have htab:Lib.TabIs P w "internal/strconv.uint64pow10" .u64 Lib.pow10Tab:=by
  unfold Lib.TabIs World.var?
  rw [hg]
  simp [hh,pow10O]
 refine (Any.strconv_Itoa L n h.1 h.2 w htab).mono ?_
 rintro e w' ⟨rfl,k,os,rfl⟩
 obtain ⟨k1,k2⟩:=hs.more (w':=Go.Sort.grow (w.drewN k) os) rfl rfl rfl (by simp [Go.Sort.grow,World.drewN]) (fun b hb=>by simp [Go.Sort.grow,World.drewN,Array.getElem?_append,hb]) (Nat.le_add_right _ _)
 exact ⟨_,_,_,rfl,k1,k2, .str _,rfl,rfl⟩
end
end
section
open Go.RowKit
structure Elm (S:Addr->Prop) (w:World) (k:Nat) {T:Type} (encV:T->V) (ok:T->Prop) where
 t:T
 vs:List Value
 len:vs.length=k
 one:∀ v∈vs,v.oneCell'=true
 rel:∀ j,j<k->R S w (vs.getD j undef) ((encV t).cell j)
 good:ok t
theorem two_of {xs:Array Value} (h:xs.size=2):∃ a b,xs = #[a,b]:=by
 obtain ⟨l⟩:=xs
 match l,h with
 | [a,b],_=>exact ⟨a,b,rfl⟩
theorem zero_of {xs:Array Value} (h:xs.size=0):xs = #[]:=by
 obtain ⟨l⟩:=xs
 match l,h with
 | [],_=>rfl
end
end Go.Proofs.YtphhijelneaedaaDoor
