/- ScriptBack: which events may be, their lines, and that they come back: the given statement as its tied card, without a condition of its own. -/
import Derived.Test.YtphhijelneaedaaDoorYwx
import Derived.Test.YtphhijelneaedaaDoorRf2x
import Derived.Test.YtphhijelneaedaaDoorEl
import Derived.Test.YtphhijelneaedaaDoorCards
import Derived.Test.YtphhijelneaedaaDoorTie
import Derived.Lay
import Derived.PinnedBridge
import Derived.Shelf.Vars
import Derived.SevenTiedAt
import Derived.LaidMore
import Derived.OpenShut
import Derived.ChangeMaps5
namespace Go.Proofs.YtphhijelneaedaaDoor
open Go.RowKit Go.ChangeMaps Go.ChangeShapes Go.WideShapes Go.ChangeAt Go.Joins Go.Deep
set_option linter.unusedSimpArgs false
set_option linter.unusedVariables false
set_option maxRecDepth 100000
section
theorem bs_of (s:ByteArray):bs s.data.toList=s:=by cases s;simp [bs]
theorem wf_u8 {x:Int} (h:(Lit.int .u8 x).wf=true):0<=x/\x<=255:=by simpa [Lit.wf,IntKind.min,IntKind.max,IntKind.bits,IntKind.signed] using h
theorem maxLen_of {w:World} (h:w.ShapedOpen Tryd.prog):∃ m,w.cell? ⟨0,0,none⟩=some (.int .i64 m):=cell_of_shapedOpen_int (P:=Tryd.prog) (g:=0) (t:=3) (zero:=#[.int .i64 0]) h (of_decide_eq_true (by kernel_rfl)) (by kernel_rfl) rfl (by kernel_rfl) (by kernel_rfl) Tryd.underlying3
theorem pow_reads {w:World} (h:laidMetH Tryd.prog Rows.scriptBackRow.laid w):Go.Lib.VarReads Tryd.prog w "internal/strconv.uint64pow10" (Go.Lib.tabData .u64 Go.Lib.pow10Tab):=by
 rw [MakeChecks.laidMetH_plain _ _ _ (by kernel_rfl)] at h
 have h1:=Go.Lib.laidMet.reads h (n := "internal/strconv.uint64pow10") (d:=Rows.laid_internal_strconv_uint64pow10) (by unfold Rows.scriptBackRow;simp)
 rw [show (Rows.laid_internal_strconv_uint64pow10:DataW Unit)=Go.Lib.tabData .u64 Go.Lib.pow10Tab from by kernel_rfl] at h1
 exact h1
section
variable {H:Type} {enc:TypeId×Value->H} {W:World}
theorem ofNat_back {x:Int} (h:0<=x/\x<=255):(((UInt8.ofNat x.toNat).toNat:Nat):Int)=x:=by simp;omega
theorem wf_i64 {x:Int} (h:(Lit.int .i64 x).wf=true):i64b x:=by
 have : -9223372036854775808<=x/\x<=9223372036854775807:=by simpa [Lit.wf,IntKind.min,IntKind.max,IntKind.bits,IntKind.signed] using h
 exact this
theorem opens_byte:Opens Tryd.prog enc W 5 1 u8 (fun _=>True):=fun cs n y hl ht=>by
 obtain ⟨a,e,_,wf⟩:=DataW.trod_int Tryd.underlying5 ht
 subst e
 refine ⟨UInt8.ofNat a.toNat,trivial,fun o ho=>?_⟩
 have:o=0:=by omega
 subst this
 show R (stable W []) W (.int .u8 a) (.int .u8 (((UInt8.ofNat a.toNat).toNat:Nat):Int))
 rw [ofNat_back (wf_u8 wf)]
 exact .int _ _
theorem at_k {cs:List Value} {o:Nat} {k:IntKind} {a:Int} (h:cs[o]? = some (.int k a)):R (stable W []) W (cs.getD o undef) (.int k a):=by
 rw [List.getD_eq_getElem?_getD,h];exact .int _ _
theorem opens_ev:Opens Tryd.prog enc W 54 5 encE evI:=fun cs n y hl ht=>by
 have hl':cs.length=Tryd.prog.cellsOf 54:=hl.trans (by kernel_rfl)
 obtain ⟨a,ha,wa⟩:=int_at ht hl' 1 0 0 3 .i64 (by kernel_rfl) (by kernel_rfl) Tryd.underlying3
 obtain ⟨b,hb,wb⟩:=int_at ht hl' 1 1 1 3 .i64 (by kernel_rfl) (by kernel_rfl) Tryd.underlying3
 obtain ⟨c,hc,wc⟩:=int_at ht hl' 1 2 2 3 .i64 (by kernel_rfl) (by kernel_rfl) Tryd.underlying3
 obtain ⟨d,hd,wd⟩:=int_at ht hl' 1 3 3 3 .i64 (by kernel_rfl) (by kernel_rfl) Tryd.underlying3
 obtain ⟨v,n',y',hv,hy⟩:=leaf_at ht hl' 1 4 4 52 (by kernel_rfl) (by kernel_rfl)
 obtain ⟨A,len,cap,hs,hE⟩:=elems_of_cell (C:=1) Tryd.underlying52 (by kernel_rfl) (by decide) hy
 obtain ⟨xs,h1,_,h3⟩:=open_elems (C:=1) (by decide) (fun a=>rfl) opens_byte hE
 have hs:v = .slice A len cap:=by simpa using hs
 subst hs
 refine ⟨⟨a,b,c,d,xs⟩,⟨wf_i64 wb,wf_i64 wc,wf_i64 wd⟩,fun o ho=>?_⟩
 match o,ho with
 | 0,_=>exact at_k ha
 | 1,_=>exact at_k hb
 | 2,_=>exact at_k hc
 | 3,_=>exact at_k hd
 | 4,_=>rw [List.getD_eq_getElem?_getD,hv];exact h3
theorem opens_yact:Opens Tryd.prog enc W 57 6 encY actY:=fun cs n y hl ht=>by
 have hl':cs.length=Tryd.prog.cellsOf 57:=hl.trans (by kernel_rfl)
 obtain ⟨a,ha,wa⟩:=int_at ht hl' 1 0 0 5 .u8 (by kernel_rfl) (by kernel_rfl) Tryd.underlying5
 obtain ⟨b,hb,wb⟩:=int_at ht hl' 1 1 1 5 .u8 (by kernel_rfl) (by kernel_rfl) Tryd.underlying5
 obtain ⟨c,hc,wc⟩:=int_at ht hl' 1 2 2 5 .u8 (by kernel_rfl) (by kernel_rfl) Tryd.underlying5
 obtain ⟨d,hd,wd⟩:=int_at ht hl' 1 3 3 5 .u8 (by kernel_rfl) (by kernel_rfl) Tryd.underlying5
 obtain ⟨e,he,we⟩:=int_at ht hl' 1 4 4 5 .u8 (by kernel_rfl) (by kernel_rfl) Tryd.underlying5
 obtain ⟨v,n',y',hv,hy⟩:=leaf_at ht hl' 1 5 5 52 (by kernel_rfl) (by kernel_rfl)
 obtain ⟨A,len,cap,hs,hE⟩:=elems_of_cell (C:=1) Tryd.underlying52 (by kernel_rfl) (by decide) hy
 obtain ⟨xs,h1,_,h3⟩:=open_elems (C:=1) (by decide) (fun a=>rfl) opens_byte hE
 have hs:v = .slice A len cap:=by simpa using hs
 subst hs
 refine ⟨⟨a,b,c,d,e,xs⟩,⟨wf_u8 wa,wf_u8 wb,wf_u8 wc,wf_u8 wd,wf_u8 we⟩,fun o ho=>?_⟩
 match o,ho with
 | 0,_=>exact at_k ha
 | 1,_=>exact at_k hb
 | 2,_=>exact at_k hc
 | 3,_=>exact at_k hd
 | 4,_=>exact at_k he
 | 5,_=>rw [List.getD_eq_getElem?_getD,hv];exact h3
end
theorem scriptBack.walk {H:Type} {enc:TypeId×Value->H} (W:World) (base:Nat) {v0 v1:Value} {d0 d1:DataW H} {p0 p1:List MemPlace}
  (o0:Value.okWide Tryd.prog W .any base 49 v0) (h0:DataW.Trod enc Tryd.prog W 0 (fun _=>true) true 49 v0 d0 p0)
  (o1:Value.okWide Tryd.prog W .any base 50 v1) (h1:DataW.Trod enc Tryd.prog W 0 (fun _=>true) true 50 v1 d1 p1)
  (hL:laidMetH Tryd.prog Rows.scriptBackRow.laid W) (hsh:W.ShapedOpen Tryd.prog) :
  Calls Tryd.prog 4 #[v0,v1] W fun e w'=>e = .returned (.bool true)/\Below W.heap.size W w':=by
 obtain ⟨A0,len0,cap0,rfl,hE0⟩:=elems_of (C:=5) Tryd.underlying49 (by kernel_rfl) (by decide) o0 h0
 obtain ⟨x0,hl0,hq0,hr0⟩:=open_elems (C:=5) (by decide) (fun a=>rfl) opens_ev hE0
 obtain ⟨A1,len1,cap1,rfl,hE1⟩:=elems_of (C:=6) Tryd.underlying50 (by kernel_rfl) (by decide) o1 h1
 obtain ⟨x1,hl1,hq1,hr1⟩:=open_elems (C:=6) (by decide) (fun a=>rfl) opens_yact hE1
 obtain ⟨m,hm⟩:=maxLen_of hsh
 obtain ⟨T5,fr,hp⟩:=pow_obj (pow_reads hL)
 have hw:=scriptBack_dc x0 x1 T5 fr m [] ⟨hq0,hq1⟩
 refine DC.lawR (args:=[.sl (x0.map encE), .sl (x1.map encY)]) hw (ml_sim hm) ml_know hp rfl fun k hk=>?_
 match k,hk with
 | 0,_=>exact hr0
 | 1,_=>exact hr1
theorem handed_and_shaped {H:Type} {enc:TypeId×Value->H} {a:Assume} {C:Checked} {os:Os} {f:FuncId} {fn:Func} {s:ChangeSpec} {conds:List PathCond} {apart fresh handsOn again:Bool} {X:World->Array Value->Prop}
  (hX:∀ (w w':World) (args:Array Value),w.heap=w'.heap->X w args->X w' args)
  (own:ownKnob C.prog.godebug=none) (started:os.Started) (noInit:C.prog.inits.idxOf? f=none) (hfn:C.prog.funcs[f]? = some fn)
  (witness:∃ (w:World) (tape:Tape) (i:Input),w.os=os/\(w.forCall tape i).Shaped C.prog/\i.vars=[]/\Input.okWide C.prog (w.forCall tape i) .any w.heap.size f i /\
    ((s.pre enc C.prog fn conds apart (w.forCall tape i).memory i.args/\X (w.forCall tape i).memory i.args)/\sizedMet enc C.prog fn (OpenSpec.ofChange s) apart (w.forCall tape i).memory i.args)/\a.holds C.prog (lone (Frame.enter C.prog f i.args .normal) [] (w.forCall tape i)))
  (contract:∀ (W:World) (base:Nat) (args:Array Value) (ds gs:List (DataW H)) (before:List MemPlace),
    (∀ (j:Nat) t v,fn.params[j]? = some t->args[j]? = some v->Value.okWide C.prog W .any base t v)->DataW.Whole enc C.prog fn.params.toList s.vars apart W args.toList ds gs before->X W args->W.ShapedOpen C.prog ->
    Calls C.prog f args W fun e W'=>∃ v,e = .returned v/\s.post enc C.prog fn apart fresh handsOn again W args v W') :
  ReturnsInHanded a C os f .any (fun w args=>(s.pre enc C.prog fn conds apart w args/\X w args)/\sizedMet enc C.prog fn (OpenSpec.ofChange s) apart w args) (s.post enc C.prog fn apart fresh handsOn again):=by
 refine returnsInHanded_of_calls own started noInit witness ?_
 intro w tape i _ hsh _ hok hpre _
 obtain ⟨_,_,_,fn',hfn',_,_,_,_,hval⟩:=hok
 obtain rfl:fn'=fn:=Option.some.inj (hfn'.symm.trans hfn)
 obtain ⟨⟨⟨ds,gs,before,hw,_⟩,hx⟩,_⟩:=hpre
 refine (contract (w.forCall tape i) w.heap.size i.args ds gs before hval (DataW.Whole.of_heap (w':=w.forCall tape i) (by rfl) hw) (hX _ _ _ (by rfl) hx) hsh).mono fun e W' ⟨v,he,hp⟩=>?_
 subst he
 exact ChangeSpec.post_blind hp
theorem scriptBack.own:ownKnob Tryd.prog.godebug=none:=by kernel_rfl
theorem scriptBack.laidOut:laidOutB Tryd.prog=true:=by kernel_rfl
set_option maxRecDepth 100000 in
theorem scriptBack.lifted (os:Os) (started:os.Started) (H:Type) (enc:TypeId×Value->H) :
  ReturnsInHanded {} Tryd.checked os 4 .any (fun w args=>(Rows.scriptBackSpec.pre enc Tryd.prog Tryd.f4 [] false w args/\laidMetH Tryd.prog Rows.scriptBackRow.laid w)/\sizedMet enc Tryd.prog Tryd.f4 (OpenSpec.ofChange Rows.scriptBackSpec) false w args)
   (Rows.scriptBackSpec.post enc Tryd.prog Tryd.f4 false true false false):=by
 refine handed_and_shaped (C:=Tryd.checked) (X:=fun w _=>laidMetH Tryd.prog Rows.scriptBackRow.laid w) (fun _ _ _ hh h=>h.of_heap hh) scriptBack.own started (by kernel_rfl) Tryd.func4
  (ChangeSpec.witness_shaped (enc:=enc) (C:=Tryd.checked) (os:=os) (X:=fun w _=>laidMetH Tryd.prog Rows.scriptBackRow.laid w) false (World.laidAll Tryd.prog os Rows.scriptBackRow.laid) #[.slice none 0 0, .slice none 0 0] 8 (World.laidAll_os _ _ _)
    (World.shaped_of_ZipB (by kernel_rfl) (by kernel_rfl)) (by kernel_rfl) (by kernel_rfl) (by kernel_rfl)
    (by rw [MakeChecks.laidMetH_plain _ _ _ (by kernel_rfl)];exact laidMet_laidAll _ (by kernel_rfl) (by kernel_rfl))) ?_
 intro W base args ds gs before hval0 hW hL hsh
 have hval:∀ (j:Nat) t v,Tryd.f4.params[j]? = some t->args[j]? = some v->Value.okWide Tryd.prog W .any base t v:=hval0
 have hW':=hW
 obtain ⟨p,q,hA0,hV,rfl,hfz,hnd⟩:=hW
 have hA:DataW.TrodAll enc Tryd.prog W 0 (fun _=>true) true Tryd.f4.params.toList args.toList ds p:=hA0
 rw [Tryd.params4] at hA hval
 obtain ⟨v0,vs0,d0,ds0,p0,q0,hargs,rfl,rfl,h0,r0⟩:=trodAll_cons hA
 obtain ⟨v1,vs1,d1,ds1,p1,q1,rfl,rfl,rfl,h1,r1⟩:=trodAll_cons r0
 obtain ⟨rfl,rfl,rfl⟩:=trodAll_nil r1
 obtain rfl:args = #[v0,v1]:=by cases args;simp_all
 obtain ⟨rfl,rfl⟩:=trodVars_none hV
 have k0:=h0
 have lt0:∀ x∈p0,x.block<W.heap.size:=by obtain ⟨m,hm⟩:=k0;exact DataW.trod_lt m _ _ _ hm
 have k1:=h1
 have lt1:∀ x∈p1,x.block<W.heap.size:=by obtain ⟨m,hm⟩:=k1;exact DataW.trod_lt m _ _ _ hm
 clear hA0 hval0
 refine (scriptBack.walk W base (hval 0 49 v0 rfl rfl) h0 (hval 1 50 v1 rfl rfl) h1 hL hsh).mono fun e W' ⟨he,bel⟩=>?_
 subst he
 exact ⟨_,rfl,_,_,_,[],_,[],hW',trodAll_mk1 (shut_bool Tryd.underlying4 _),(trodAll_cons_mk (Below.trod scriptBack.laidOut (by kernel_rfl) (of_decide_eq_true (by kernel_rfl)) k0 bel lt0) (trodAll_cons_mk (Below.trod scriptBack.laidOut (by kernel_rfl) (of_decide_eq_true (by kernel_rfl)) k1 bel lt1) trodAll_mk0)),rfl,bel.frame _,fun h=>by cases h⟩
theorem and_t {a b:Bool} (h1:a=true) (h2:b=true):(a&&b)=true:=by rw [h1,h2];rfl
set_option maxHeartbeats 40000000 in
theorem scriptBack.closed:joinedFacts Tryd.prog 4 Tryd.f4 Rows.scriptBackSpec Rows.scriptBackRow=true:=by
 unfold joinedFacts
 repeat' (with_reducible apply and_t)
 all_goals (as_aux_lemma=>kernel_rfl)
theorem scriptBack.over:Rows.scriptBackRow.holds Tryd.pinned (OpenSpec.ofChange Rows.scriptBackSpec) :=
 OpenClaim.holds_of_wide 4 Tryd.f4 rfl rfl rfl rfl rfl rfl rfl ⟨rfl,rfl,rfl,rfl,rfl⟩ rfl rfl rfl rfl rfl (by kernel_rfl) Tryd.func4 scriptBack.closed
  (of_decide_eq_true (by kernel_rfl)) (by unfold Func.isWrapper;first | (rw [if_pos (by decide +kernel)];kernel_rfl) | (rw [if_neg (by decide +kernel)];exact ⟨rfl,rfl⟩))
  (fun os started H enc _=>scriptBack.lifted os started H enc)
theorem scriptBack.plain (f:FuncId) (fn:Func) (hf:Tryd.pinned.checked.prog.funcNamed "hubbub/hubbublaw23.ScriptBack" = some f) (hfn:Tryd.pinned.checked.prog.funcs[f]? = some fn) :
  true=Tryd.pinned.checked.prog.looks []/\∀ (j:Nat) t,fn.params[j]? = some t->Tryd.pinned.checked.prog.wantsStandIn t=false:=by
 obtain rfl:f=4:=Option.some.inj ((show Tryd.prog.funcNamed "hubbub/hubbublaw23.ScriptBack" = some 4 by kernel_rfl).symm.trans hf) |>.symm
 obtain rfl:fn=Tryd.f4:=(Option.some.inj (Tryd.func4.symm.trans hfn)).symm
 refine ⟨by kernel_rfl,fun j t ht=>?_⟩
 rw [Tryd.params4] at ht
 have hm:t∈[49,50]:=by simpa using Array.mem_of_getElem? ht
 have hall:([49,50].all fun u=>!Tryd.prog.wantsStandIn u)=true:=by kernel_rfl
 exact (show Tryd.prog.wantsStandIn t=false by simpa using List.all_eq_true.1 hall t hm)
theorem scriptBack.proved:Rows.ScriptBackCardSaid :=
 Claim7.holds_tied_plain_at .later [] _ _ _ _ scriptBack.over (fun _ h=>by cases h) (by as_aux_lemma=>kernel_rfl) (fun _ h=>by cases h) scriptBack_row_tie rfl ⟨rfl,rfl⟩ (by as_aux_lemma=>kernel_rfl) rfl scriptBack.plain (by as_aux_lemma=>kernel_rfl)
#print axioms scriptBack.proved
end
end Go.Proofs.YtphhijelneaedaaDoor
