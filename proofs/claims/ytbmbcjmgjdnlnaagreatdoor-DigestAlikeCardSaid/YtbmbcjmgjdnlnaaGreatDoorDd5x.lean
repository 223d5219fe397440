/- Ten builders are made; a cell is laid down in one; what one holds. -/
import Derived.Test.YtbmbcjmgjdnlnaaGreatDoorPtgx
import Derived.Test.YtbmbcjmgjdnlnaaGreatDoorSd3x
import Derived.Test.YtbmbcjmgjdnlnaaGreatDoorTm2x
import Derived.KernelRfl
namespace Go.Proofs.YtbmbcjmgjdnlnaaGreatDoor
open Go.RowKit
set_option linter.unusedSimpArgs false
set_option linter.unusedVariables false
set_option linter.unusedSectionVars false
set_option maxHeartbeats 4000000
set_option maxRecDepth 100000
section
def fresh10:BXs:=List.replicate 10 (false, .slice none 0 0,[])
def em10:List Str:=List.replicate 10 []
theorem fresh_BL:BL fresh10 0:=⟨rfl,fun x hx=>by rw [List.eq_of_mem_replicate hx];exact Nat.le_refl _⟩
theorem fresh_byt:byt fresh10=em10:=rfl
theorem Pull.tail_ {H es F:Own} {G:Own->Prop} (hH:H=es++F) (h:G F):Pull H es G:=⟨F,by rw [hH],h⟩
theorem addNil_ {w:World} (E:TypeId) {H:Own} (hs:Sim w H):∀ n,Sim w (List.replicate n (.ba E (.slice none 0 0) [])++H)/\Ext w H w (List.replicate n (.ba E (.slice none 0 0) [])++H)
 | 0=>⟨hs, .refl _ _⟩
 | n+1=>by
  obtain ⟨h1,h2⟩:=addNil_ E hs n
  obtain ⟨k1,k2⟩:=h1.add (w':=w) (e1:=.ba E (.slice none 0 0) []) rfl rfl rfl (Nat.le_refl _) (fun _ _=>rfl) (fun _ h=>h.elim) fun _=>⟨rfl,rfl,rfl⟩
  rw [List.replicate_succ,List.cons_append]
  exact ⟨k1,h2.trans k2⟩
theorem gs_ar {S S':Addr->Prop} {w w':World} {v:Value} (h:R S w v (.gs (.slice none 0 0) [])):R S' w' v (.ar (.slice none 0 0) 0):=by cases h;exact .ar _ _ _ (Nat.le_refl _) (fun _=>rfl)
section
variable {o:Oper} {f:Operand->V} {H:Own} {K:V->Own->Prop}
theorem DOp.allocB_ (L0 F0:Own) (hH:H=L0++F0) (hop:o.op = .alloc 129) (h:∀ b,K (.raw (.pointer (some ⟨b,0,none⟩))) (L0++(bown 5 129 b fresh10++F0))):DOp Tryz.prog o f H K :=
 DOp.step fun a w hs hr=>by
  subst hH
  obtain ⟨i,d,hi,_,_,_,_,hz⟩:=ty_info (P:=Tryz.prog) (t:=129) rfl (by rw [ty_129];decide) (by rw [ty_129];decide)
  cases hzz:i.zero with
  | none=>rw [hzz,ty_129] at hz;simp at hz
  | some z =>
   obtain ⟨z1,z2⟩:=zero_rel (P:=Tryz.prog) (S:=stable w (L0++F0)) (w:=w) hi hzz hz
   have two:∀ k,k<20->((ty Tryz.prog 129).zero.getD k .any = .raw (.pointer none)/\(bcells w.heap.size 0 fresh10).getD k .any = .raw (.pointer none))\/((ty Tryz.prog 129).zero.getD k .any = .gs (.slice none 0 0) []/\(bcells w.heap.size 0 fresh10).getD k .any = .ar (.slice none 0 0) 0):=fun k hk=>by
    rw [ty_129]
    exact match k,hk with
  | 0,_=>.inl ⟨rfl,rfl⟩
  | 1,_=>.inr ⟨rfl,rfl⟩
  | 2,_=>.inl ⟨rfl,rfl⟩
  | 3,_=>.inr ⟨rfl,rfl⟩
  | 4,_=>.inl ⟨rfl,rfl⟩
  | 5,_=>.inr ⟨rfl,rfl⟩
  | 6,_=>.inl ⟨rfl,rfl⟩
  | 7,_=>.inr ⟨rfl,rfl⟩
  | 8,_=>.inl ⟨rfl,rfl⟩
  | 9,_=>.inr ⟨rfl,rfl⟩
  | 10,_=>.inl ⟨rfl,rfl⟩
  | 11,_=>.inr ⟨rfl,rfl⟩
  | 12,_=>.inl ⟨rfl,rfl⟩
  | 13,_=>.inr ⟨rfl,rfl⟩
  | 14,_=>.inl ⟨rfl,rfl⟩
  | 15,_=>.inr ⟨rfl,rfl⟩
  | 16,_=>.inl ⟨rfl,rfl⟩
  | 17,_=>.inr ⟨rfl,rfl⟩
  | 18,_=>.inl ⟨rfl,rfl⟩
  | 19,_=>.inr ⟨rfl,rfl⟩
  | k+20,hk=>absurd hk (by omega)
   have hl:(ty Tryz.prog 129).zero.length=20:=by rw [ty_129];rfl
   obtain ⟨k1,k2⟩:=hs.add (w':=w.alloc (.cells z.cells 129)) (e1:=.tb 129 w.heap.size (bcells w.heap.size 0 fresh10)) rfl rfl rfl (by simp) (fun b hb=>Below.heap_alloc w _ b hb) (fun b h=>Nat.le_of_eq h.symm) fun hst =>
    ⟨z.cells,(0,0),heap_alloc_new w _, .inl rfl,by rw [z1,hl];rfl,fun k hk=>by
      have hk:k<20:=hk
      rcases two k hk with ⟨t1,t2⟩ | ⟨t1,t2⟩
      · have:=z2 k (by omega);rw [t1] at this;rw [t2];exact this.mono hst
      · have:=z2 k (by omega);rw [t1] at this;rw [t2];exact gs_ar this⟩
   obtain ⟨m1,m2⟩:=addNil_ 5 k1 10
   have hp:(List.replicate 10 (Ent.ba 5 (.slice none 0 0) [])++(Ent.tb 129 w.heap.size (bcells w.heap.size 0 fresh10)::(L0++F0))).Perm (L0++(bown 5 129 w.heap.size fresh10++F0)):=by
    refine List.perm_middle.trans ?_
    have e1:(L0++(bown 5 129 w.heap.size fresh10++F0))=L0++Ent.tb 129 w.heap.size (bcells w.heap.size 0 fresh10)::(barrs 5 fresh10++F0):=rfl
    rw [e1]
    refine List.Perm.trans ?_ List.perm_middle.symm
    refine List.Perm.cons _ ?_
    have e2:barrs 5 fresh10=List.replicate 10 (Ent.ba 5 (.slice none 0 0) []):=rfl
    rw [e2,<-List.append_assoc,<-List.append_assoc]
    exact List.Perm.append_right _ List.perm_append_comm
   refine ⟨.pointer (some ⟨w.heap.size,0,none⟩),_,_,_,?_,⟨m1.perm hp,(k2.trans m2).trans (Ext.perm hp)⟩, .raw _,h _⟩
   unfold execOp
   rw [hop]
   simp [Instr.alloc,zeroValue,typeInfo,program,Sem.run,hi,hzz,newVar,newRow]
end
theorem cellAt_dc (v0:Value) (T5:TypeId) (fr:Nat×Nat) (e1 e2 e3:Ent) (b:Nat) (L:BXs) (k:Nat) (a1 a2 a3 a4 a5 a6:Int) (a7 a8:List UInt8) (a9:Int) (a10:Bool) (F:Own):(k<10/\BL L 100000000000/\((i64b a1/\i64b a2/\i64b a3)/\(i64b a4/\i64b a5/\i64b a6)/\(a7.length<=2000/\a8.length<=2000)/\i64b a9)) ->
  DC Tryz.prog 91 [.raw (.pointer (some ⟨b,k * 2,none⟩)), .agg [.int .i64 a1, .int .i64 a2, .int .i64 a3, .int .i64 a4, .int .i64 a5, .int .i64 a6, .str a7, .sl (a8.map u8), .int .i64 a9, .bool a10]] (([]:Own)++(.tail 1 v0::loose::knP T5 fr::e1::e2::e3::(bown 5 129 b L++F))) fun d G=>∃ L':BXs,(L'.length=10/\byt L'=addAt (byt L) k (cellP (⟨⟨a1,a2,a3⟩,⟨a4,a5,a6⟩,a7,a8,a9,a10⟩:TCell)))/\d = .tup []/\G=(.tail 1 v0::loose::knP T5 fr::e1::e2::e3::(bown 5 129 b L'++F)):=fun h=>by
 have p1:∀ L':BXs,(loose::knP T5 fr :: .tail 1 v0::e1::e2::e3::(bown 5 129 b L'++F)).Perm (.tail 1 v0::loose::knP T5 fr::e1::e2::e3::(bown 5 129 b L'++F)):=fun L'=>(List.Perm.cons _ (List.Perm.swap ..)).trans (List.Perm.swap ..)
 have:=DC.at_k (f:=91) (args:=[.raw (.pointer (some ⟨b,2 * k,none⟩)), .agg [.int .i64 a1, .int .i64 a2, .int .i64 a3, .int .i64 a4, .int .i64 a5, .int .i64 a6, .str a7, .sl (a8.map u8), .int .i64 a9, .bool a10]]) (b:=b) (K0:=[loose,knP T5 fr]) (K1:=[.tail 1 v0,e1,e2,e3]) (F0:=F) L k h.1 100000000000 h.2.1 (cellP (⟨⟨a1,a2,a3⟩,⟨a4,a5,a6⟩,a7,a8,a9,a10⟩:TCell)) fun cs v l hB hl F=>dcell_dc 129 b (2 * k) cs v l T5 fr a1 a2 a3 a4 a5 a6 a7 a8 a9 a10 F ⟨hB,hl,h.2.2⟩
 rw [Nat.mul_comm k 2]
 exact DC.turn (p1 L).symm this p1
theorem strAt_dc (v0:Value) (T5:TypeId) (fr:Nat×Nat) (e1 e2 e3:Ent) (b:Nat) (L:BXs) (k:Nat) (F:Own):(k<10/\BL L 100000000000) ->
  DC Tryz.prog 93 [.raw (.pointer (some ⟨b,k * 2,none⟩))] (([]:Own)++(.tail 1 v0::loose::knP T5 fr::e1::e2::e3::(.tb 129 b (bcells b 0 L)::(barrs 5 (L.drop k)++F)))) fun d G=>d = .str ((byt L).getD k [])/\G=(.tail 1 v0::loose::knP T5 fr::e1::e2::e3::(.tb 129 b (bcells b 0 L)::(barrs 5 (L.drop (k+1))++F))):=fun h=>by
 obtain ⟨A,x,C,rfl,rfl⟩:=split_k (show k<L.length by rw [h.2.len];exact h.1)
 have q1:(A++x::C).drop A.length=x::C:=by simp
 have q2:(A++x::C).drop (A.length+1)=C:=by simp
 have q3:(byt (A++x::C)).getD A.length []=x.2.2:=by
  unfold byt
  rw [List.map_append,List.map_cons,List.getD_eq_getElem?_getD,List.getElem?_append_right (by simp),List.length_map,Nat.sub_self];rfl
 rw [q1,q2,q3,Nat.mul_comm A.length 2]
 have hc:=bstr_dc 129 b (2 * A.length) (bcells b 0 (A++x::C)) x.2.1 x.2.2 (.tail 1 v0::loose::knP T5 fr::e1::e2::e3::(barrs 5 C++F)) ⟨bown_bat h.2.len,by have:=h.2.sz x (by simp);omega⟩
 have p:∀ (X:Own) (a:Ent),(.tail 1 v0::loose::knP T5 fr::e1::e2::e3::a::X:Own).Perm (a :: .tail 1 v0::loose::knP T5 fr::e1::e2::e3::X):=fun X a=>show (([.tail 1 v0,loose,knP T5 fr,e1,e2,e3]:Own)++a::X).Perm (a::(([.tail 1 v0,loose,knP T5 fr,e1,e2,e3]:Own)++X)) from List.perm_middle
 have p0:(.tail 1 v0::loose::knP T5 fr::e1::e2::e3::(.tb 129 b (bcells b 0 (A++x::C))::barrs 5 (x::C)++F):Own).Perm ([.tb 129 b (bcells b 0 (A++x::C)), .ba 5 x.2.1 x.2.2]++(.tail 1 v0::loose::knP T5 fr::e1::e2::e3::(barrs 5 C++F))) :=
  (p _ _).trans (List.Perm.cons _ (p _ _))
 refine (DC.permB (α:=Unit) (Q:=fun _ d=>d = .str x.2.2) (F1:=fun _=>[.tb 129 b (bcells b 0 (A++x::C))]++(.tail 1 v0::loose::knP T5 fr::e1::e2::e3::(barrs 5 C++F))) p0 (hc.mono fun d G ⟨h1,h2⟩=>⟨(),h1,h2⟩) fun _=>(p _ _).symm).mono ?_
 rintro d G ⟨_,h1,h2⟩
 exact ⟨h1,h2⟩
theorem prT_dc (t:TTable) (m:Int) (F:Own):(Lite 1000000000 t)->DC Tryz.prog 41 [.agg [.sl (t.seen.map encDot), .sl (t.fences.map encFence), .sl (t.routes.map encRoute), .sl (t.cells.map encCell)]] ([knF,knA,knM m]++F) fun d G=>d = .bool (tabB t)/\G=[knF,knA,knM m]++F:=fun h =>
 ptright_dc t.seen t.fences t.routes t.cells m F ⟨⟨h.s,h.f,h.r,h.c⟩,fun k hk=>Nat.le_trans (h.rf _ (getD_mem hk)) (by decide),fun k hk=>Nat.le_trans (h.ct _ (getD_mem hk)) (by decide),fun k hk=>h.cp _ (getD_mem hk)⟩
end
end Go.Proofs.YtbmbcjmgjdnlnaaGreatDoor
