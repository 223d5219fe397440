/- TriePlays: any script of putting and dropping comes to just the document's subscribers: the given statement as its tied card, without a condition of its own. -/
import Derived.Test.YtphhijelneaedaaDoorUcx
import Derived.Test.YtphhijelneaedaaDoorLkx
import Derived.Test.YtphhijelneaedaaDoorMgx
import Derived.Test.YtphhijelneaedaaDoorCards
import Derived.Test.YtphhijelneaedaaDoorTie
import Derived.Lay
import Derived.PinnedBridge
import Derived.Shelf.Vars
import Derived.SevenTiedAt
import Derived.LaidMore
import Derived.OpenShut
import Derived.ChangeMaps5
namespace Go.Proofs.YtphhijelneaedaaDoor
open Go.RowKit Go.ChangeMaps Go.ChangeShapes Go.WideShapes Go.ChangeAt Go.Joins Go.Deep
set_option linter.unusedSimpArgs false
set_option linter.unusedVariables false
set_option maxRecDepth 100000
section
theorem bs_of (s:ByteArray):bs s.data.toList=s:=by cases s;simp [bs]
theorem wf_u8 {x:Int} (h:(Lit.int .u8 x).wf=true):0<=x/\x<=255:=by simpa [Lit.wf,IntKind.min,IntKind.max,IntKind.bits,IntKind.signed] using h
theorem u8Extra:U8Extra Tryd.prog laySplit_ren:=⟨by kernel_rfl,by kernel_rfl,by kernel_rfl,by kernel_rfl,by kernel_rfl,by kernel_rfl,by kernel_rfl⟩
theorem maxLen_of {w:World} (h:w.ShapedOpen Tryd.prog):∃ m,w.cell? ⟨0,0,none⟩=some (.int .i64 m):=cell_of_shapedOpen_int (P:=Tryd.prog) (g:=0) (t:=3) (zero:=#[.int .i64 0]) h (of_decide_eq_true (by kernel_rfl)) (by kernel_rfl) rfl (by kernel_rfl) (by kernel_rfl) Tryd.underlying3
theorem tabs_of {w:World} (h:laidMetH Tryd.prog Rows.triePlaysRow.laid w):Go.Lib.Utf8Tabs 1 2 w:=by
 rw [MakeChecks.laidMetH_plain _ _ _ (by kernel_rfl)] at h
 have h1:=Go.Lib.laidMet.reads h (n := "unicode/utf8.first") (d:=Rows.laid_unicode_utf8_first) (by unfold Rows.triePlaysRow;simp)
 have h2:=Go.Lib.laidMet.reads h (n := "unicode/utf8.acceptRanges") (d:=Rows.laid_unicode_utf8_acceptRanges) (by unfold Rows.triePlaysRow;simp)
 rw [show Rows.laid_unicode_utf8_first=Go.Lib.firstData from Pinned.utf8First_eq] at h1
 rw [show (Rows.laid_unicode_utf8_acceptRanges:DataW Unit)=Go.Lib.acceptData from by kernel_rfl] at h2
 exact utf8Tabs_of_reads { laySplit with } u8Extra h1 h2
section
variable {H:Type} {enc:TypeId×Value->H} {W:World}
theorem cell_u8 {cs:List Value} {o:Nat} {a:Int} (h:cs[o]? = some (.int .u8 a)):R (stable W []) W (cs.getD o undef) (.int .u8 a):=by
 rw [List.getD_eq_getElem?_getD,h];exact .int _ _
theorem at_str {cs:List Value} {o:Nat} {a:ByteArray} (h:cs[o]? = some (.string a)):R (stable W []) W (cs.getD o undef) (.str a.data.toList):=by
 rw [List.getD_eq_getElem?_getD,h];have:=R.str (S:=stable W []) (w:=W) a.data.toList;rw [bs_of] at this;exact this
theorem opens_act:Opens Tryd.prog enc W 31 5 encAct actR:=fun cs n y hl ht=>by
 have hl':cs.length=Tryd.prog.cellsOf 31:=hl.trans (by kernel_rfl)
 obtain ⟨a,ha,wa⟩:=int_at ht hl' 1 0 0 5 .u8 (by kernel_rfl) (by kernel_rfl) Tryd.underlying5
 obtain ⟨b,hb,wb⟩:=int_at ht hl' 1 1 1 5 .u8 (by kernel_rfl) (by kernel_rfl) Tryd.underlying5
 obtain ⟨c,hc,wc⟩:=int_at ht hl' 1 2 2 5 .u8 (by kernel_rfl) (by kernel_rfl) Tryd.underlying5
 obtain ⟨d,hd,wd⟩:=int_at ht hl' 1 3 3 5 .u8 (by kernel_rfl) (by kernel_rfl) Tryd.underlying5
 obtain ⟨g,hg,_⟩:=string_at ht hl' 1 4 4 9 (by kernel_rfl) (by kernel_rfl) Tryd.underlying9
 refine ⟨⟨a,b,c,d,g.data.toList⟩,⟨wf_u8 wa,wf_u8 wb,wf_u8 wc,wf_u8 wd⟩,fun o ho=>?_⟩
 match o,ho with
 | 0,_=>exact cell_u8 ha
 | 1,_=>exact cell_u8 hb
 | 2,_=>exact cell_u8 hc
 | 3,_=>exact cell_u8 hd
 | 4,_=>exact at_str hg
end
theorem triePlays.walk {H:Type} {enc:TypeId×Value->H} (W:World) (base:Nat) {v0 v1:Value} {d0 d1:DataW H} {p0 p1:List MemPlace}
  (o0:Value.okWide Tryd.prog W .any base 22 v0) (h0:DataW.Trod enc Tryd.prog W 0 (fun _=>true) true 22 v0 d0 p0)
  (o1:Value.okWide Tryd.prog W .any base 9 v1) (h1:DataW.Trod enc Tryd.prog W 0 (fun _=>true) true 9 v1 d1 p1)
  (hL:laidMetH Tryd.prog Rows.triePlaysRow.laid W) (hsh:W.ShapedOpen Tryd.prog) :
  Calls Tryd.prog 3 #[v0,v1] W fun e w'=>e = .returned (.bool true)/\Below W.heap.size W w':=by
 obtain ⟨A0,len0,cap0,rfl,hE0⟩:=elems_of (C:=5) Tryd.underlying22 (by kernel_rfl) (by decide) o0 h0
 obtain ⟨x0,hl0,hq0,hr0⟩:=open_elems (C:=5) (by decide) (fun a=>rfl) opens_act hE0
 obtain ⟨x1,rfl,_,_,w1⟩:=open_string Tryd.underlying9 o1 h1
 obtain ⟨m,hm⟩:=maxLen_of hsh
 refine DC.lawL (args:=[.sl (x0.map encAct), .str x1.data.toList]) (triePlays_dc m x0 x1.data.toList [] hq0) (known_sim (tabs_of hL) hm).1 known_kn rfl fun k hk=>?_
 match k,hk with
 | 0,_=>exact hr0
 | 1,_=>have:=R.str (S:=stable W []) (w:=W) x1.data.toList;rw [bs_of] at this;exact this
theorem handed_and_shaped {H:Type} {enc:TypeId×Value->H} {a:Assume} {C:Checked} {os:Os} {f:FuncId} {fn:Func} {s:ChangeSpec} {conds:List PathCond} {apart fresh handsOn again:Bool} {X:World->Array Value->Prop}
  (hX:∀ (w w':World) (args:Array Value),w.heap=w'.heap->X w args->X w' args)
  (own:ownKnob C.prog.godebug=none) (started:os.Started) (noInit:C.prog.inits.idxOf? f=none) (hfn:C.prog.funcs[f]? = some fn)
  (witness:∃ (w:World) (tape:Tape) (i:Input),w.os=os/\(w.forCall tape i).Shaped C.prog/\i.vars=[]/\Input.okWide C.prog (w.forCall tape i) .any w.heap.size f i /\
    ((s.pre enc C.prog fn conds apart (w.forCall tape i).memory i.args/\X (w.forCall tape i).memory i.args)/\sizedMet enc C.prog fn (OpenSpec.ofChange s) apart (w.forCall tape i).memory i.args)/\a.holds C.prog (lone (Frame.enter C.prog f i.args .normal) [] (w.forCall tape i)))
  (contract:∀ (W:World) (base:Nat) (args:Array Value) (ds gs:List (DataW H)) (before:List MemPlace),
    (∀ (j:Nat) t v,fn.params[j]? = some t->args[j]? = some v->Value.okWide C.prog W .any base t v)->DataW.Whole enc C.prog fn.params.toList s.vars apart W args.toList ds gs before->X W args->W.ShapedOpen C.prog ->
    Calls C.prog f args W fun e W'=>∃ v,e = .returned v/\s.post enc C.prog fn apart fresh handsOn again W args v W') :
  ReturnsInHanded a C os f .any (fun w args=>(s.pre enc C.prog fn conds apart w args/\X w args)/\sizedMet enc C.prog fn (OpenSpec.ofChange s) apart w args) (s.post enc C.prog fn apart fresh handsOn again):=by
 refine returnsInHanded_of_calls own started noInit witness ?_
 intro w tape i _ hsh _ hok hpre _
 obtain ⟨_,_,_,fn',hfn',_,_,_,_,hval⟩:=hok
 obtain rfl:fn'=fn:=Option.some.inj (hfn'.symm.trans hfn)
 obtain ⟨⟨⟨ds,gs,before,hw,_⟩,hx⟩,_⟩:=hpre
 refine (contract (w.forCall tape i) w.heap.size i.args ds gs before hval (DataW.Whole.of_heap (w':=w.forCall tape i) (by rfl) hw) (hX _ _ _ (by rfl) hx) hsh).mono fun e W' ⟨v,he,hp⟩=>?_
 subst he
 exact ChangeSpec.post_blind hp
theorem triePlays.own:ownKnob Tryd.prog.godebug=none:=by kernel_rfl
theorem triePlays.laidOut:laidOutB Tryd.prog=true:=by kernel_rfl
set_option maxRecDepth 100000 in
theorem triePlays.lifted (os:Os) (started:os.Started) (H:Type) (enc:TypeId×Value->H) :
  ReturnsInHanded {} Tryd.checked os 3 .any (fun w args=>(Rows.triePlaysSpec.pre enc Tryd.prog Tryd.f3 [] false w args/\laidMetH Tryd.prog Rows.triePlaysRow.laid w)/\sizedMet enc Tryd.prog Tryd.f3 (OpenSpec.ofChange Rows.triePlaysSpec) false w args)
   (Rows.triePlaysSpec.post enc Tryd.prog Tryd.f3 false true false false):=by
 refine handed_and_shaped (C:=Tryd.checked) (X:=fun w _=>laidMetH Tryd.prog Rows.triePlaysRow.laid w) (fun _ _ _ hh h=>h.of_heap hh) triePlays.own started (by kernel_rfl) Tryd.func3
  (ChangeSpec.witness_shaped (enc:=enc) (C:=Tryd.checked) (os:=os) (X:=fun w _=>laidMetH Tryd.prog Rows.triePlaysRow.laid w) false (World.laidAll Tryd.prog os Rows.triePlaysRow.laid) #[.slice none 0 0, .string .empty] 8 (World.laidAll_os _ _ _)
    (World.shaped_of_ZipB (by kernel_rfl) (by kernel_rfl)) (by kernel_rfl) (by kernel_rfl) (by kernel_rfl)
    (by rw [MakeChecks.laidMetH_plain _ _ _ (by kernel_rfl)];exact laidMet_laidAll _ (by kernel_rfl) (by kernel_rfl))) ?_
 intro W base args ds gs before hval0 hW hL hsh
 have hval:∀ (j:Nat) t v,Tryd.f3.params[j]? = some t->args[j]? = some v->Value.okWide Tryd.prog W .any base t v:=hval0
 have hW':=hW
 obtain ⟨p,q,hA0,hV,rfl,hfz,hnd⟩:=hW
 have hA:DataW.TrodAll enc Tryd.prog W 0 (fun _=>true) true Tryd.f3.params.toList args.toList ds p:=hA0
 rw [Tryd.params3] at hA hval
 obtain ⟨v0,vs0,d0,ds0,p0,q0,hargs,rfl,rfl,h0,r0⟩:=trodAll_cons hA
 obtain ⟨v1,vs1,d1,ds1,p1,q1,rfl,rfl,rfl,h1,r1⟩:=trodAll_cons r0
 obtain ⟨rfl,rfl,rfl⟩:=trodAll_nil r1
 obtain rfl:args = #[v0,v1]:=by cases args;simp_all
 obtain ⟨rfl,rfl⟩:=trodVars_none hV
 have k0:=h0
 have lt0:∀ x∈p0,x.block<W.heap.size:=by obtain ⟨m,hm⟩:=k0;exact DataW.trod_lt m _ _ _ hm
 have k1:=h1
 have lt1:∀ x∈p1,x.block<W.heap.size:=by obtain ⟨m,hm⟩:=k1;exact DataW.trod_lt m _ _ _ hm
 clear hA0 hval0
 refine (triePlays.walk W base (hval 0 22 v0 rfl rfl) h0 (hval 1 9 v1 rfl rfl) h1 hL hsh).mono fun e W' ⟨he,bel⟩=>?_
 subst he
 exact ⟨_,rfl,_,_,_,[],_,[],hW',trodAll_mk1 (shut_bool Tryd.underlying4 _),(trodAll_cons_mk (Below.trod triePlays.laidOut (by kernel_rfl) (of_decide_eq_true (by kernel_rfl)) k0 bel lt0) (trodAll_cons_mk (Below.trod triePlays.laidOut (by kernel_rfl) (of_decide_eq_true (by kernel_rfl)) k1 bel lt1) trodAll_mk0)),rfl,bel.frame _,fun h=>by cases h⟩
theorem and_t {a b:Bool} (h1:a=true) (h2:b=true):(a&&b)=true:=by rw [h1,h2];rfl
set_option maxHeartbeats 40000000 in
theorem triePlays.closed:joinedFacts Tryd.prog 3 Tryd.f3 Rows.triePlaysSpec Rows.triePlaysRow=true:=by
 unfold joinedFacts
 repeat' (with_reducible apply and_t)
 all_goals (as_aux_lemma=>kernel_rfl)
theorem triePlays.over:Rows.triePlaysRow.holds Tryd.pinned (OpenSpec.ofChange Rows.triePlaysSpec) :=
 OpenClaim.holds_of_wide 3 Tryd.f3 rfl rfl rfl rfl rfl rfl rfl ⟨rfl,rfl,rfl,rfl,rfl⟩ rfl rfl rfl rfl rfl (by kernel_rfl) Tryd.func3 triePlays.closed
  (of_decide_eq_true (by kernel_rfl)) (by unfold Func.isWrapper;first | (rw [if_pos (by decide +kernel)];kernel_rfl) | (rw [if_neg (by decide +kernel)];exact ⟨rfl,rfl⟩))
  (fun os started H enc _=>triePlays.lifted os started H enc)
theorem triePlays.plain (f:FuncId) (fn:Func) (hf:Tryd.pinned.checked.prog.funcNamed "hubbub/hubbublaw7.TriePlays" = some f) (hfn:Tryd.pinned.checked.prog.funcs[f]? = some fn) :
  true=Tryd.pinned.checked.prog.looks []/\∀ (j:Nat) t,fn.params[j]? = some t->Tryd.pinned.checked.prog.wantsStandIn t=false:=by
 obtain rfl:f=3:=Option.some.inj ((show Tryd.prog.funcNamed "hubbub/hubbublaw7.TriePlays" = some 3 by kernel_rfl).symm.trans hf) |>.symm
 obtain rfl:fn=Tryd.f3:=(Option.some.inj (Tryd.func3.symm.trans hfn)).symm
 refine ⟨by kernel_rfl,fun j t ht=>?_⟩
 rw [Tryd.params3] at ht
 have hm:t∈[22,9]:=by simpa using Array.mem_of_getElem? ht
 have hall:([22,9].all fun u=>!Tryd.prog.wantsStandIn u)=true:=by kernel_rfl
 exact (show Tryd.prog.wantsStandIn t=false by simpa using List.all_eq_true.1 hall t hm)
theorem triePlays.proved:Rows.TriePlaysCardSaid :=
 Claim7.holds_tied_plain_at .later [] _ _ _ _ triePlays.over (fun _ h=>by cases h) (by as_aux_lemma=>kernel_rfl) (fun _ h=>by cases h) triePlays_row_tie rfl ⟨rfl,rfl⟩ (by as_aux_lemma=>kernel_rfl) rfl triePlays.plain (by as_aux_lemma=>kernel_rfl)
#print axioms triePlays.proved
end
end Go.Proofs.YtphhijelneaedaaDoor
