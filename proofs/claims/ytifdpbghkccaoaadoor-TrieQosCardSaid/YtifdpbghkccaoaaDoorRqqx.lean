/- TrieQos: the last QoS of a filter counts, and the greatest one of all that match: the given statement as its tied card, without a condition of its own. -/
import Derived.Test.YtifdpbghkccaoaaDoorTqx
import Derived.Test.YtifdpbghkccaoaaDoorLlx
import Derived.Test.YtifdpbghkccaoaaDoorLkx
import Derived.Test.YtifdpbghkccaoaaDoorCards
import Derived.Test.YtifdpbghkccaoaaDoorTie
import Derived.Lay
import Derived.PinnedBridge
import Derived.Shelf.Vars
import Derived.SevenTiedAt
import Derived.LaidMore
import Derived.OpenShut
import Derived.ChangeMaps5
namespace Go.Proofs.YtifdpbghkccaoaaDoor
open Go.RowKit Go.ChangeMaps Go.ChangeShapes Go.WideShapes Go.ChangeAt Go.Joins Go.Deep
set_option linter.unusedSimpArgs false
set_option linter.unusedVariables false
set_option maxRecDepth 100000
section
theorem bs_of (s:ByteArray):bs s.data.toList=s:=by cases s;simp [bs]
theorem wf_u8 {x:Int} (h:(Lit.int .u8 x).wf=true):0<=x/\x<=255:=by simpa [Lit.wf,IntKind.min,IntKind.max,IntKind.bits,IntKind.signed] using h
theorem u8Extra:U8Extra Tryd.prog laySplit_ren:=⟨by kernel_rfl,by kernel_rfl,by kernel_rfl,by kernel_rfl,by kernel_rfl,by kernel_rfl,by kernel_rfl⟩
theorem maxLen_of {w:World} (h:w.ShapedOpen Tryd.prog):∃ m,w.cell? ⟨2,0,none⟩=some (.int .i64 m):=cell_of_shapedOpen_int (P:=Tryd.prog) (g:=2) (t:=3) (zero:=#[.int .i64 0]) h (of_decide_eq_true (by kernel_rfl)) (by kernel_rfl) rfl (by kernel_rfl) (by kernel_rfl) Tryd.underlying3
theorem tabs_of {w:World} (h:laidMetH Tryd.prog Rows.trieQosRow.laid w):Go.Lib.Utf8Tabs 0 1 w:=by
 rw [MakeChecks.laidMetH_plain _ _ _ (by kernel_rfl)] at h
 have h1:=Go.Lib.laidMet.reads h (n := "unicode/utf8.first") (d:=Rows.laid_unicode_utf8_first) (by unfold Rows.trieQosRow;simp)
 have h2:=Go.Lib.laidMet.reads h (n := "unicode/utf8.acceptRanges") (d:=Rows.laid_unicode_utf8_acceptRanges) (by unfold Rows.trieQosRow;simp)
 rw [show Rows.laid_unicode_utf8_first=Go.Lib.firstData from Pinned.utf8First_eq] at h1
 rw [show (Rows.laid_unicode_utf8_acceptRanges:DataW Unit)=Go.Lib.acceptData from by kernel_rfl] at h2
 exact utf8Tabs_of_reads { laySplit with } u8Extra h1 h2
theorem trieQos.walk {H:Type} {enc:TypeId×Value->H} (W:World) (base:Nat) {v0 v1 v2:Value} {d0 d1 d2:DataW H} {p0 p1 p2:List MemPlace}
  (o0:Value.okWide Tryd.prog W .any base 5 v0) (h0:DataW.Trod enc Tryd.prog W 0 (fun _=>true) true 5 v0 d0 p0)
  (o1:Value.okWide Tryd.prog W .any base 5 v1) (h1:DataW.Trod enc Tryd.prog W 0 (fun _=>true) true 5 v1 d1 p1)
  (o2:Value.okWide Tryd.prog W .any base 5 v2) (h2:DataW.Trod enc Tryd.prog W 0 (fun _=>true) true 5 v2 d2 p2)
  (hL:laidMetH Tryd.prog Rows.trieQosRow.laid W) (hsh:W.ShapedOpen Tryd.prog) :
  Calls Tryd.prog 3 #[v0,v1,v2] W fun e w'=>e = .returned (.bool true)/\Below W.heap.size W w':=by
 obtain ⟨x0,rfl,_,_,w0⟩:=open_int Tryd.underlying5 o0 h0
 obtain ⟨x1,rfl,_,_,w1⟩:=open_int Tryd.underlying5 o1 h1
 obtain ⟨x2,rfl,_,_,w2⟩:=open_int Tryd.underlying5 o2 h2
 obtain ⟨m,hm⟩:=maxLen_of hsh
 refine DC.lawL (args:=[.int .u8 x0, .int .u8 x1, .int .u8 x2]) (trieQos_dc m x0 x1 x2 [] ⟨wf_u8 w0,wf_u8 w1,wf_u8 w2⟩) (known_sim (tabs_of hL) hm).1 known_kn rfl fun k hk=>?_
 match k,hk with
 | 0,_=>exact .int _ _
 | 1,_=>exact .int _ _
 | 2,_=>exact .int _ _
theorem handed_and_shaped {H:Type} {enc:TypeId×Value->H} {a:Assume} {C:Checked} {os:Os} {f:FuncId} {fn:Func} {s:ChangeSpec} {conds:List PathCond} {apart fresh handsOn again:Bool} {X:World->Array Value->Prop}
  (hX:∀ (w w':World) (args:Array Value),w.heap=w'.heap->X w args->X w' args)
  (own:ownKnob C.prog.godebug=none) (started:os.Started) (noInit:C.prog.inits.idxOf? f=none) (hfn:C.prog.funcs[f]? = some fn)
  (witness:∃ (w:World) (tape:Tape) (i:Input),w.os=os/\(w.forCall tape i).Shaped C.prog/\i.vars=[]/\Input.okWide C.prog (w.forCall tape i) .any w.heap.size f i /\
    ((s.pre enc C.prog fn conds apart (w.forCall tape i).memory i.args/\X (w.forCall tape i).memory i.args)/\sizedMet enc C.prog fn (OpenSpec.ofChange s) apart (w.forCall tape i).memory i.args)/\a.holds C.prog (lone (Frame.enter C.prog f i.args .normal) [] (w.forCall tape i)))
  (contract:∀ (W:World) (base:Nat) (args:Array Value) (ds gs:List (DataW H)) (before:List MemPlace),
    (∀ (j:Nat) t v,fn.params[j]? = some t->args[j]? = some v->Value.okWide C.prog W .any base t v)->DataW.Whole enc C.prog fn.params.toList s.vars apart W args.toList ds gs before->X W args->W.ShapedOpen C.prog ->
    Calls C.prog f args W fun e W'=>∃ v,e = .returned v/\s.post enc C.prog fn apart fresh handsOn again W args v W') :
  ReturnsInHanded a C os f .any (fun w args=>(s.pre enc C.prog fn conds apart w args/\X w args)/\sizedMet enc C.prog fn (OpenSpec.ofChange s) apart w args) (s.post enc C.prog fn apart fresh handsOn again):=by
 refine returnsInHanded_of_calls own started noInit witness ?_
 intro w tape i _ hsh _ hok hpre _
 obtain ⟨_,_,_,fn',hfn',_,_,_,_,hval⟩:=hok
 obtain rfl:fn'=fn:=Option.some.inj (hfn'.symm.trans hfn)
 obtain ⟨⟨⟨ds,gs,before,hw,_⟩,hx⟩,_⟩:=hpre
 refine (contract (w.forCall tape i) w.heap.size i.args ds gs before hval (DataW.Whole.of_heap (w':=w.forCall tape i) (by rfl) hw) (hX _ _ _ (by rfl) hx) hsh).mono fun e W' ⟨v,he,hp⟩=>?_
 subst he
 exact ChangeSpec.post_blind hp
theorem trieQos.own:ownKnob Tryd.prog.godebug=none:=by kernel_rfl
theorem trieQos.laidOut:laidOutB Tryd.prog=true:=by kernel_rfl
set_option maxRecDepth 100000 in
theorem trieQos.lifted (os:Os) (started:os.Started) (H:Type) (enc:TypeId×Value->H) :
  ReturnsInHanded {} Tryd.checked os 3 .any (fun w args=>(Rows.trieQosSpec.pre enc Tryd.prog Tryd.f3 [] false w args/\laidMetH Tryd.prog Rows.trieQosRow.laid w)/\sizedMet enc Tryd.prog Tryd.f3 (OpenSpec.ofChange Rows.trieQosSpec) false w args)
   (Rows.trieQosSpec.post enc Tryd.prog Tryd.f3 false true false false):=by
 refine handed_and_shaped (C:=Tryd.checked) (X:=fun w _=>laidMetH Tryd.prog Rows.trieQosRow.laid w) (fun _ _ _ hh h=>h.of_heap hh) trieQos.own started (by kernel_rfl) Tryd.func3
  (ChangeSpec.witness_shaped (enc:=enc) (C:=Tryd.checked) (os:=os) (X:=fun w _=>laidMetH Tryd.prog Rows.trieQosRow.laid w) false (World.laidAll Tryd.prog os Rows.trieQosRow.laid) #[.int .u8 0, .int .u8 0, .int .u8 0] 8 (World.laidAll_os _ _ _)
    (World.shaped_of_ZipB (by kernel_rfl) (by kernel_rfl)) (by kernel_rfl) (by kernel_rfl) (by kernel_rfl)
    (by rw [MakeChecks.laidMetH_plain _ _ _ (by kernel_rfl)];exact laidMet_laidAll _ (by kernel_rfl) (by kernel_rfl))) ?_
 intro W base args ds gs before hval0 hW hL hsh
 have hval:∀ (j:Nat) t v,Tryd.f3.params[j]? = some t->args[j]? = some v->Value.okWide Tryd.prog W .any base t v:=hval0
 have hW':=hW
 obtain ⟨p,q,hA0,hV,rfl,hfz,hnd⟩:=hW
 have hA:DataW.TrodAll enc Tryd.prog W 0 (fun _=>true) true Tryd.f3.params.toList args.toList ds p:=hA0
 rw [Tryd.params3] at hA hval
 obtain ⟨v0,vs0,d0,ds0,p0,q0,hargs,rfl,rfl,h0,r0⟩:=trodAll_cons hA
 obtain ⟨v1,vs1,d1,ds1,p1,q1,rfl,rfl,rfl,h1,r1⟩:=trodAll_cons r0
 obtain ⟨v2,vs2,d2,ds2,p2,q2,rfl,rfl,rfl,h2,r2⟩:=trodAll_cons r1
 obtain ⟨rfl,rfl,rfl⟩:=trodAll_nil r2
 obtain rfl:args = #[v0,v1,v2]:=by cases args;simp_all
 obtain ⟨rfl,rfl⟩:=trodVars_none hV
 have k0:=h0
 have lt0:∀ x∈p0,x.block<W.heap.size:=by obtain ⟨m,hm⟩:=k0;exact DataW.trod_lt m _ _ _ hm
 have k1:=h1
 have lt1:∀ x∈p1,x.block<W.heap.size:=by obtain ⟨m,hm⟩:=k1;exact DataW.trod_lt m _ _ _ hm
 have k2:=h2
 have lt2:∀ x∈p2,x.block<W.heap.size:=by obtain ⟨m,hm⟩:=k2;exact DataW.trod_lt m _ _ _ hm
 clear hA0 hval0
 refine (trieQos.walk W base (hval 0 5 v0 rfl rfl) h0 (hval 1 5 v1 rfl rfl) h1 (hval 2 5 v2 rfl rfl) h2 hL hsh).mono fun e W' ⟨he,bel⟩=>?_
 subst he
 exact ⟨_,rfl,_,_,_,[],_,[],hW',trodAll_mk1 (shut_bool Tryd.underlying4 _),(trodAll_cons_mk (Below.trod trieQos.laidOut (by kernel_rfl) (of_decide_eq_true (by kernel_rfl)) k0 bel lt0) (trodAll_cons_mk (Below.trod trieQos.laidOut (by kernel_rfl) (of_decide_eq_true (by kernel_rfl)) k1 bel lt1) (trodAll_cons_mk (Below.trod trieQos.laidOut (by kernel_rfl) (of_decide_eq_true (by kernel_rfl)) k2 bel lt2) trodAll_mk0))),rfl,bel.frame _,fun h=>by cases h⟩
theorem and_t {a b:Bool} (h1:a=true) (h2:b=true):(a&&b)=true:=by rw [h1,h2];rfl
set_option maxHeartbeats 40000000 in
theorem trieQos.closed:joinedFacts Tryd.prog 3 Tryd.f3 Rows.trieQosSpec Rows.trieQosRow=true:=by
 unfold joinedFacts
 repeat' (with_reducible apply and_t)
 all_goals (as_aux_lemma=>kernel_rfl)
theorem trieQos.over:Rows.trieQosRow.holds Tryd.pinned (OpenSpec.ofChange Rows.trieQosSpec) :=
 OpenClaim.holds_of_wide 3 Tryd.f3 rfl rfl rfl rfl rfl rfl rfl ⟨rfl,rfl,rfl,rfl,rfl⟩ rfl rfl rfl rfl rfl (by kernel_rfl) Tryd.func3 trieQos.closed
  (of_decide_eq_true (by kernel_rfl)) (by unfold Func.isWrapper;first | (rw [if_pos (by decide +kernel)];kernel_rfl) | (rw [if_neg (by decide +kernel)];exact ⟨rfl,rfl⟩))
  (fun os started H enc _=>trieQos.lifted os started H enc)
theorem trieQos.plain (f:FuncId) (fn:Func) (hf:Tryd.pinned.checked.prog.funcNamed "hubbub/hubbublaw7.TrieQos" = some f) (hfn:Tryd.pinned.checked.prog.funcs[f]? = some fn) :
  false=Tryd.pinned.checked.prog.looks []/\∀ (j:Nat) t,fn.params[j]? = some t->Tryd.pinned.checked.prog.wantsStandIn t=false:=by
 obtain rfl:f=3:=Option.some.inj ((show Tryd.prog.funcNamed "hubbub/hubbublaw7.TrieQos" = some 3 by kernel_rfl).symm.trans hf) |>.symm
 obtain rfl:fn=Tryd.f3:=(Option.some.inj (Tryd.func3.symm.trans hfn)).symm
 refine ⟨by kernel_rfl,fun j t ht=>?_⟩
 rw [Tryd.params3] at ht
 have hm:t∈[5,5,5]:=by simpa using Array.mem_of_getElem? ht
 have hall:([5,5,5].all fun u=>!Tryd.prog.wantsStandIn u)=true:=by kernel_rfl
 exact (show Tryd.prog.wantsStandIn t=false by simpa using List.all_eq_true.1 hall t hm)
theorem trieQos.proved:Rows.TrieQosCardSaid :=
 Claim7.holds_tied_plain_at .later [] _ _ _ _ trieQos.over (fun _ h=>by cases h) (by as_aux_lemma=>kernel_rfl) (fun _ h=>by cases h) trieQos_row_tie rfl ⟨rfl,rfl⟩ (by as_aux_lemma=>kernel_rfl) rfl trieQos.plain (by as_aux_lemma=>kernel_rfl)
#print axioms trieQos.proved
end
end Go.Proofs.YtifdpbghkccaoaaDoor
