/- Rows that come back are held fast; fields that hold nothing yet are to be owned. No statement of the program. -/
import Derived.Test.YtgekknefphagbaaGreatDoorEzx
import Derived.Shelf.Strings.Split
import Derived.Test.YtgekknefphagbaaGreatDoorProg
namespace Go.Proofs.YtgekknefphagbaaGreatDoor
open Go.RowKit
set_option linter.unusedSimpArgs false
set_option linter.unusedVariables false
set_option linter.unusedSectionVars false
section
theorem DC.frzX {P:Program} {f:FuncId} {args:List V} {H F:Own} {X:Type} {Q:X->Prop} {sz:Nat} {l:X->List V} (hz:0<sz) (hl:∀ x,∀ y∈l x,y.n=sz)
  (h:DC P f args H fun d G=>∃ v x,d = .ar v (l x).length/\Q x/\G = .arr sz v (cells (l x))::F):DC P f args H fun d G=>∃ x,Q x/\d = .sl (l x)/\G=F :=
 ⟨h.1,fun xs w hs hn hr=>(h.2 xs w hs hn hr).mono fun e w' ⟨u,d,H',he,s,ex,r,v,x,hd,hq,hG⟩=>by
   subst hd hG
   obtain ⟨⟨g1,g2⟩,g3⟩:=Sim.frz (L1:=[]) s hz (hl x)
   have k1:Ext w' (.tail sz v::F) w' F:=Ext.drop fun x hx=>List.mem_cons_of_mem _ hx
   have r1:R (stable w' F) w' u (.gs v (l x)):=(R.cv g3 (Cv.hit _) (g2.rel r)).mono k1.cells
   exact ⟨u, .sl (l x),F,he,g1.drop (List.sublist_cons_self _ _),(ex.trans g2).trans k1,le.gs rfl _ _ _ r1,x,hq,rfl,rfl⟩⟩
theorem DW.own0B (sz b i:Nat) {P:Program} {n:Nat} {Q:Exit->Env->Own->Prop} {e:Env} {H:Own} {c:Code} {cs:List V} (ht:cs.getD i .any = .gs (.slice none 0 0) [])
  (h:DW P n c Q e (.arr sz (.slice none 0 0) [] :: .blk b (cs.set i (.ar (.slice none 0 0) 0))::H)):DW P n c Q e (.blk b cs::H):=fun a w hs hr=>by
 obtain ⟨k1,k2⟩:=Sim.swap (L1:=[]) (w':=w) (e0:=.blk b cs) (e1:=.blk b (cs.set i (.ar (.slice none 0 0) 0))) hs rfl rfl rfl (Nat.le_refl _) (fun _ _ _=>rfl) (fun _ _ _=>rfl) (fun b hb=>.inl hb) (fun q hq=>.inl hq) (fun hst=>by
  obtain ⟨xs,T,fr,h1,h2,h3,h4⟩:=hs.holds (.blk b cs) (by simp)
  refine ⟨xs,T,fr,h1,h2,by rw [List.length_set];exact h3,fun k hk=>?_⟩
  rw [List.length_set] at hk
  have h5:=(h4 k hk).mono hst
  by_cases hki:i=k
  · subst hki
    rw [ht] at h5
    have e1:(cs.set i (V.ar (.slice none 0 0) 0)).getD i .any = .ar (.slice none 0 0) 0:=by rw [List.getD_eq_getElem?_getD,List.getElem?_set_self hk];rfl
    rw [e1]
    generalize xs.getD i undef=y at h5 ⊢
    cases h5
    exact .ar _ _ _ (Nat.le_refl _) (fun _=>rfl)
  · have e1:(cs.set i (V.ar (.slice none 0 0) 0)).getD k .any=cs.getD k .any:=by rw [List.getD_eq_getElem?_getD,List.getElem?_set_ne hki,<-List.getD_eq_getElem?_getD]
    rw [e1];exact h5)
 obtain ⟨g1,g2⟩:=k1.arr0 sz
 have x2:=k2.trans g2
 exact wp_mono (h a w g1 ⟨hr.size,fun u=>x2.rel (hr.slot u)⟩) fun x a1 w1 ⟨hd,e1,H1,s,r,x1,q⟩=>⟨hd,e1,H1,s,r,x2.trans x1,q⟩
theorem DW.own0P (sz b i:Nat) {P:Program} {n:Nat} {Q:Exit->Env->Own->Prop} {e:Env} {H F:Own} {c:Code} {cs:List V} (hq:Pulled H [.blk b cs] F) (ht:cs.getD i .any = .gs (.slice none 0 0) [])
  (h:DW P n c Q e (.arr sz (.slice none 0 0) [] :: .blk b (cs.set i (.ar (.slice none 0 0) 0))::F)):DW P n c Q e H:=fun a w hs hr=>by
 have hp:H.Perm (.blk b cs::F):=hq
 have x2:=Ext.perm (w:=w) hp
 exact wp_mono (DW.own0B sz b i ht h a w (hs.perm hp) ⟨hr.size,fun u=>x2.rel (hr.slot u)⟩) fun x a1 w1 ⟨hd,e1,H1,s,r,x1,q⟩=>⟨hd,e1,H1,s,r,x2.trans x1,q⟩
end
section
open Go.Shelf Go.RowKit
def laySplit_ren:Go.Shelf.Ren:=⟨fun | 146=>173 | 221=>231 | 268=>263 | 138=>264 | 143=>265 | 195=>284 | 197=>285 | 218=>286 | 219=>287 | 260=>295 | 217=>296 | 225=>297 | 224=>298 | 267=>299 | 266=>301 | 314=>302 | n=>n,fun | 9=>9 | 31=>36 | 3=>3 | 4=>4 | 0=>0 | 105=>302 | 21=>21 | 5=>5 | 46=>221 | 119=>342 | 139=>345 | 138=>344 | 146=>351 | 51=>281 | n=>n,fun | 1=>3 | 3=>1 | 4=>2 | n=>n⟩
theorem laySplit:Go.Proofs.Lays.n146 Tryz.prog laySplit_ren:={
 mixed:=by kernel_rfl
 f138:=Tryz.func264.trans (congrArg some (by kernel_rfl))
 f143:=Tryz.func265.trans (congrArg some (by kernel_rfl))
 f146:=Tryz.func173.trans (congrArg some (by kernel_rfl))
 f195:=Tryz.func284.trans (congrArg some (by kernel_rfl))
 f197:=Tryz.func285.trans (congrArg some (by kernel_rfl))
 f217:=Tryz.func296.trans (congrArg some (by kernel_rfl))
 f218:=Tryz.func286.trans (congrArg some (by kernel_rfl))
 f219:=Tryz.func287.trans (congrArg some (by kernel_rfl))
 f221:=Tryz.func231.trans (congrArg some (by kernel_rfl))
 f224:=Tryz.func298.trans (congrArg some (by kernel_rfl))
 f225:=Tryz.func297.trans (congrArg some (by kernel_rfl))
 f260:=Tryz.func295.trans (congrArg some (by kernel_rfl))
 f266:=Tryz.func301.trans (congrArg some (by kernel_rfl))
 f267:=Tryz.func299.trans (congrArg some (by kernel_rfl))
 f268:=Tryz.func263.trans (congrArg some (by kernel_rfl))
 f314:=Tryz.func302.trans (congrArg some (by kernel_rfl))
 t0:=Tryz.underlying0
 a0:=Tryz.isAgg0
 z0:=Tryz.sizeOf0
 v0:=Tryz.zeroValue0
 t3:=Tryz.underlying3
 a3:=Tryz.isAgg3
 z3:=Tryz.sizeOf3
 v3:=Tryz.zeroValue3
 t4:=Tryz.underlying4
 a4:=Tryz.isAgg4
 z4:=Tryz.sizeOf4
 v4:=Tryz.zeroValue4
 t5:=Tryz.underlying5
 a5:=Tryz.isAgg5
 z5:=Tryz.sizeOf5
 v5:=Tryz.zeroValue5
 t9:=Tryz.underlying9
 a9:=Tryz.isAgg9
 z9:=Tryz.sizeOf9
 v9:=Tryz.zeroValue9
 t21:=Tryz.underlying21
 a21:=Tryz.isAgg21
 z21:=Tryz.sizeOf21
 v21:=Tryz.zeroValue21
 t31:=Tryz.underlying36
 a31:=Tryz.isAgg36
 z31:=Tryz.sizeOf36
 v31:=Tryz.zeroValue36
 t46:=Tryz.underlying221
 a46:=Tryz.isAgg221
 z46:=Tryz.sizeOf221
 v46:=Tryz.zeroValue221
 t51:=Tryz.underlying281
 a51:=Tryz.isAgg281
 z51:=Tryz.sizeOf281
 v51:=Tryz.zeroValue281
 t105:=Tryz.underlying302
 a105:=Tryz.isAgg302
 z105:=Tryz.sizeOf302
 v105:=Tryz.zeroValue302
 t119:=Tryz.underlying342
 a119:=Tryz.isAgg342
 z119:=Tryz.sizeOf342
 t138:=Tryz.underlying344
 a138:=Tryz.isAgg344
 z138:=Tryz.sizeOf344
 v138:=Tryz.zeroValue344
 t139:=Tryz.underlying345
 a139:=Tryz.isAgg345
 z139:=Tryz.sizeOf345
 v139:=Tryz.zeroValue345
 t146:=Tryz.underlying351
 a146:=Tryz.isAgg351
 z146:=Tryz.sizeOf351
 v146:=Tryz.zeroValue351
 g1:=by kernel_rfl
 g3:=by kernel_rfl
 g4:=by kernel_rfl }
end
end Go.Proofs.YtgekknefphagbaaGreatDoor
