/- Layer 20: a name is taken over. -/
import Derived.Test.YtgekknefphagbaaGreatDoorSgx
import Derived.Test.YtgekknefphagbaaGreatDoorRux
import Derived.Test.YtgekknefphagbaaGreatDoorRcx
import Derived.KernelRfl
import Derived.Test.YtgekknefphagbaaGreatDoorLkx
import Derived.Test.YtgekknefphagbaaGreatDoorCzx
import Derived.Test.YtgekknefphagbaaGreatDoorCards
import Derived.Test.YtgekknefphagbaaGreatDoorTie
import Derived.Lay
import Derived.PinnedBridge
import Derived.Shelf.Vars
import Derived.SevenTiedAt
import Derived.LaidMore
import Derived.OpenShut
import Derived.ChangeMaps5
namespace Go.Proofs.YtgekknefphagbaaGreatDoor
open Go.RowKit
set_option linter.unusedSimpArgs false
set_option linter.unusedVariables false
set_option linter.unusedSectionVars false
set_option maxHeartbeats 4000000
set_option maxRecDepth 100000
section
theorem filY_ok (k:Int):filterB (filY k)=true:=by
 have h:∀ x∈([[97],[35],[97,47,43],[43,47,98],[97,47,35],[98,47,99],[36,115,47,35],[43],[43,47,43],[195,169,47,35]]:List YS),filterB x=true:=by
  intro x hx
  simp only [List.mem_cons,List.not_mem_nil,or_false] at hx
  rcases hx with rfl | rfl | rfl | rfl | rfl | rfl | rfl | rfl | rfl | rfl<;>first | rfl | decide
 have h2:(k.tmod 10).toNat<10:=by have:=Int.tmod_lt_of_pos k (show (0:Int)<10 by decide);omega
 have hl:∀ (l:List YS) (i:Nat),i<l.length->l.getD i default∈l:=fun l i hi=>by rw [List.getD_eq_getElem?_getD,List.getElem?_eq_getElem hi];exact List.getElem_mem _
 exact h _ (hl _ _ h2)
theorem tk3_L (cl c2:Bool) (f:YS):(tk3 cl c2 f).L=if (!cl && !c2)=true then [((f,[107]),1)] else []:=rfl
theorem cb_t:(zdA true 0).map u8=[.int .u8 32, .int .u8 2, .int .u8 1, .int .u8 0]:=rfl
theorem cb_f:(zdA false 0).map u8=[.int .u8 32, .int .u8 2, .int .u8 0, .int .u8 0]:=rfl
theorem ns_2:([[107],[108]]:List YS).Nodup:=by decide
theorem ns_k:∀ k,k<([[107],[108]]:List YS).length->([[107],[108]]:List YS).getD k []≠[]/\(([[107],[108]]:List YS).getD k []).length<=1000:=fun k hk=>by
 have hk2:k<2:=hk
 have hc:k=0\/k=1:=by omega
 rcases hc with rfl | rfl<;>exact ⟨by decide,by decide⟩
theorem kOpd_dc (m:Int) (T5:TypeId) (fr5:Nat×Nat) (cl:Bool) (F:Own):True->DC Tryz.prog 25 [.sl [.str [107], .str [108]], .bool cl] ((knP T5 fr5::loose::knF::knA::knM m::([]:Own))++F) fun d G=>∃ (bb:Nat) (s':BN),(BOK s'/\s'.pl=opB [[107],[108]] cl 2)/\d = .raw (.pointer (some ⟨bb,0,none⟩))/\G=knP T5 fr5::loose::knF::knA::knM m::(ownB bb s'++F):=fun _=>znU m T5 fr5 [[107],[108]] cl F ⟨by decide,ns_2,ns_k⟩
theorem kFil_dc (bb:Nat) (s:BN) (cl c2:Bool) (f:YS) (F:Own):(BOK s/\s.pl=tk3 cl c2 f)->DC Tryz.prog 33 [.raw (.pointer (some ⟨bb,0,none⟩))] ((loose::(ownB bb s++[]))++F) fun d G=>d = .sl (if (!cl && !c2)=true then [.str f] else [])/\G=(loose::(ownB bb s++[]))++F:=fun ⟨h,hp⟩=>by
 have h1:=bfil_dc bb s F ⟨h,by rw [hp,tk3_L];split<;>simp⟩
 rw [hp,tk3_L] at h1
 cases cl<;>cases c2<;>exact h1
attribute [local irreducible] SN.own ownT ownC ownS ownB zae zbj zah zaK zb5 outM zaS zdA opB opF tk1 tk3 zcX subX setB filterB zdw filY
attribute [local irreducible] DW SeqD DV DOp DC DVX DVJ idsF usI sortS putM zaj onlyM
theorem zay {p:Prop} (h:p:=by first | exact sv | (first | exact .inl ⟨rfl, .inl rfl⟩ | exact .inr ⟨rfl,rfl⟩) | exact hk | exact ⟨hs0,hp0,filY_ok k,by have:=zkB k;omega⟩ | exact ⟨hs1,hp1⟩ | exact ⟨hs2,hp2,by have:=zkB k;omega⟩ | exact ⟨hs3,hp3⟩ | exact ⟨hs3,hp3, .inl ⟨rfl,rfl⟩⟩ | exact ⟨hs3,hp3, .inr (.inl ⟨rfl,rfl⟩)⟩ | exact ⟨hs3,hp3, .inr (.inr ⟨rfl,rfl⟩)⟩ | fail):p:=h
section
attribute [local push_cast 2000] cb_t cb_f zc5 encOu List.map_cons List.map_nil Bool.not_false Bool.not_true Bool.and_true Bool.true_and Bool.and_false Bool.false_and Bool.and_self if_true if_false Bool.false_eq_true
theorem zgO (cl c2:Bool) (k:Int) (T5:TypeId) (fr5:Nat×Nat) (m:Int) (F:Own):(0<=k/\k<=255)->DC Tryz.prog 8 [.bool cl, .bool c2, .int .u8 k] ([loose,knP T5 fr5,knF,knA,knM m]++F) fun d G=>d = .bool true/\G=[loose,knP T5 fr5,knF,knA,knM m]++F:=by
 intro hA
 have hk:=hA
 refine DC.bodyS (n_:=116) (show Tryz.prog.funcs[8]? = some Tryz.f8 by kernel_rfl) rfl rfl (by rfl) ?_
 simp only [env0,List.append_assoc,List.cons_append,List.nil_append]
 have kw:=ksIs [0,1,2,6,7,8,9,11,12,13,14,16]
 have ow:=zaf []
 rcases cl with _ | _<;>rcases c2 with _ | _
 repeat' (first
  | refine g_ ?_
  | ((with_reducible refine And.intro ?_ ?_);(exact zay))
  | (refine DW.cond (by rfl) ?_ ?_<;>(first | exact i0_ | (refine ic_ ?_;intro hb)))
  | ((with_reducible refine zaa ?_ ?_)<;>(intro hb;rw [hb];revert hb;(first | exact i0_ | (refine i_ ?_;intro hb))))
  | refine r_ ?_
  | refine k_ ?_
  | ((first | refine q_ (zls _ _ _ _) ?_ (ha:=by exact zay) | refine q_ (filY_dc _ _) ?_ (ha:=by exact zay)))
  | (refine p_ (kOpd_dc _ _ _ _ _) ?_ (ha:=by exact zay);rintro d H1 ⟨bb,s0,⟨hs0,hp0⟩,rfl,rfl⟩<;>refine s_ ?_)
  | (refine p_ (kSub_dc _ _ _ _ _ _) ?_ (ha:=by exact zay);rintro d H1 ⟨s1,⟨hs1,hp1⟩,rfl,rfl⟩<;>refine s_ ?_)
  | (refine p_ (kOp7_dc (f:=filY k) _ _ _ _) ?_ (ha:=by exact zay);rintro d H1 ⟨s2,⟨hs2,hp2⟩,rfl,rfl⟩<;>refine s_ ?_)
  | (refine p_ (zqw (f:=filY k) _ _ _ _ _ _ _ _) ?_ (ha:=by exact zay);rintro d H1 ⟨s3,⟨hs3,hp3⟩,rfl,rfl⟩<;>refine s_ ?_)
  | (refine p_ (pq0_dc _ _ _) ?_ (ha:=by exact zay);rintro d H1 ⟨v8,rfl,rfl⟩<;>refine s_ ?_)
  | (refine p_ (pq7_dc _ _ _) ?_ (ha:=by exact zay);rintro d H1 ⟨v9,rfl,rfl⟩<;>refine s_ ?_)
  | (refine q_ (zjw (f:=filY k) (nm:=[]) _ _ _ _ _ _) ?_ (ha:=by exact zay))
  | (refine q_ (zjw (f:=filY k) (nm:=[108]) _ _ _ _ _ _) ?_ (ha:=by exact zay))
  | (refine q_ (zjw (f:=filY k) (nm:=[107]) _ _ _ _ _ _) ?_ (ha:=by exact zay))
  | (refine q_ (kFil_dc (f:=filY k) _ _ _ _ _) ?_ (ha:=by exact zay))
  | refine o_ ?_
  | refine f_ ?_
  | ((fail_if_success (have zz:=eb));with_reducible intro eb)
  | ((fail_if_success (have zz:=gb));with_reducible intro gb)
  | with_reducible intro b)
 all_goals first
 | ((exact absurd rfl hb))
 | (exact kxb5)
 | (trace_state;fail)
end
end
section
open Go.RowKit Go.ChangeMaps Go.ChangeShapes Go.WideShapes Go.ChangeAt Go.Joins Go.Deep
theorem wf_u8 {x:Int} (h:(Lit.int .u8 x).wf=true):0<=x/\x<=255:=by simpa [Lit.wf,IntKind.min,IntKind.max,IntKind.bits,IntKind.signed] using h
theorem u8Extra:U8Extra Tryz.prog laySplit_ren:=⟨by kernel_rfl,by kernel_rfl,by kernel_rfl,by kernel_rfl,by kernel_rfl,by kernel_rfl,by kernel_rfl⟩
theorem znW {w:World} (h:w.ShapedOpen Tryz.prog):∃ m,w.cell? ⟨3,0,none⟩=some (.int .i64 m):=cell_of_shapedOpen_int (P:=Tryz.prog) (g:=3) (t:=3) (zero:=#[.int .i64 0]) h (of_decide_eq_true (by kernel_rfl)) (by kernel_rfl) rfl (by kernel_rfl) (by kernel_rfl) Tryz.underlying3
theorem tabs_of {w:World} (h:laidMetH Tryz.prog Rows.brokerTakesRow.laid w):Go.Lib.Utf8Tabs 1 2 w:=by
 rw [MakeChecks.laidMetH_plain _ _ _ (by kernel_rfl)] at h
 have h1:=Go.Lib.laidMet.reads h (n := "unicode/utf8.first") (d:=Rows.laid_unicode_utf8_first) (by unfold Rows.brokerTakesRow;simp)
 have h2:=Go.Lib.laidMet.reads h (n := "unicode/utf8.acceptRanges") (d:=Rows.laid_unicode_utf8_acceptRanges) (by unfold Rows.brokerTakesRow;simp)
 rw [show Rows.laid_unicode_utf8_first=Go.Lib.firstData from Pinned.utf8First_eq] at h1
 rw [show (Rows.laid_unicode_utf8_acceptRanges:DataW Unit)=Go.Lib.acceptData from by kernel_rfl] at h2
 exact utf8Tabs_of_reads { zkF with } u8Extra h1 h2
theorem zos {w:World} (h:laidMetH Tryz.prog Rows.brokerTakesRow.laid w):Go.Lib.VarReads Tryz.prog w "internal/strconv.uint64pow10" (Go.Lib.tabData .u64 Go.Lib.pow10Tab):=by
 rw [MakeChecks.laidMetH_plain _ _ _ (by kernel_rfl)] at h
 have h1:=Go.Lib.laidMet.reads h (n := "internal/strconv.uint64pow10") (d:=Rows.laid_internal_strconv_uint64pow10) (by unfold Rows.brokerTakesRow;simp)
 rw [show (Rows.laid_internal_strconv_uint64pow10:DataW Unit)=Go.Lib.tabData .u64 Go.Lib.pow10Tab from by kernel_rfl] at h1
 exact h1
theorem brokerTakes.walk {H:Type} {enc:TypeId×Value->H} (W:World) (base:Nat) {v0 v1 v2:Value} {d0 d1 d2:DataW H} {p0 p1 p2:List MemPlace}
  (o0:Value.okWide Tryz.prog W .any base 4 v0) (h0:DataW.Trod enc Tryz.prog W 0 (fun _=>true) true 4 v0 d0 p0)
  (o1:Value.okWide Tryz.prog W .any base 4 v1) (h1:DataW.Trod enc Tryz.prog W 0 (fun _=>true) true 4 v1 d1 p1)
  (o2:Value.okWide Tryz.prog W .any base 5 v2) (h2:DataW.Trod enc Tryz.prog W 0 (fun _=>true) true 5 v2 d2 p2)
  (hL:laidMetH Tryz.prog Rows.brokerTakesRow.laid W) (hsh:W.ShapedOpen Tryz.prog) :
  Calls Tryz.prog 8 #[v0,v1,v2] W fun e w'=>e = .returned (.bool true)/\Below W.heap.size W w':=by
 obtain ⟨x0,rfl,_,_⟩:=open_bool Tryz.underlying4 o0 h0
 obtain ⟨x1,rfl,_,_⟩:=open_bool Tryz.underlying4 o1 h1
 obtain ⟨x2,rfl,_,_,w2⟩:=open_int Tryz.underlying5 o2 h2
 obtain ⟨m,hm⟩:=znW hsh
 obtain ⟨T5,fr,hp⟩:=pow_obj (zos hL)
 have hw:=zgO x0 x1 x2 T5 fr m [] (wf_u8 w2)
 refine DC.lawR (args:=[.bool x0, .bool x1, .int .u8 x2]) hw (zmU (tabs_of hL) hm).1 zma hp rfl fun k hk=>?_
 match k,hk with
 | 0,_=>exact .bool _
 | 1,_=>exact .bool _
 | 2,_=>exact .int _ _
theorem zfo {H:Type} {enc:TypeId×Value->H} {a:Assume} {C:Checked} {os:Os} {f:FuncId} {fn:Func} {s:ChangeSpec} {conds:List PathCond} {apart fresh handsOn again:Bool} {X:World->Array Value->Prop}
  (hX:∀ (w w':World) (args:Array Value),w.heap=w'.heap->X w args->X w' args)
  (own:ownKnob C.prog.godebug=none) (started:os.Started) (noInit:C.prog.inits.idxOf? f=none) (hfn:C.prog.funcs[f]? = some fn)
  (witness:∃ (w:World) (tape:Tape) (i:Input),w.os=os/\(w.forCall tape i).Shaped C.prog/\i.vars=[]/\Input.okWide C.prog (w.forCall tape i) .any w.heap.size f i /\
    ((s.pre enc C.prog fn conds apart (w.forCall tape i).memory i.args/\X (w.forCall tape i).memory i.args)/\sizedMet enc C.prog fn (OpenSpec.ofChange s) apart (w.forCall tape i).memory i.args)/\a.holds C.prog (lone (Frame.enter C.prog f i.args .normal) [] (w.forCall tape i)))
  (contract:∀ (W:World) (base:Nat) (args:Array Value) (ds gs:List (DataW H)) (before:List MemPlace),
    (∀ (j:Nat) t v,fn.params[j]? = some t->args[j]? = some v->Value.okWide C.prog W .any base t v)->DataW.Whole enc C.prog fn.params.toList s.vars apart W args.toList ds gs before->X W args->W.ShapedOpen C.prog ->
    Calls C.prog f args W fun e W'=>∃ v,e = .returned v/\s.post enc C.prog fn apart fresh handsOn again W args v W') :
  ReturnsInHanded a C os f .any (fun w args=>(s.pre enc C.prog fn conds apart w args/\X w args)/\sizedMet enc C.prog fn (OpenSpec.ofChange s) apart w args) (s.post enc C.prog fn apart fresh handsOn again):=by
 refine returnsInHanded_of_calls own started noInit witness ?_
 intro w tape i _ hsh _ hok hpre _
 obtain ⟨_,_,_,fn',hfn',_,_,_,_,hval⟩:=hok
 obtain rfl:fn'=fn:=Option.some.inj (hfn'.symm.trans hfn)
 obtain ⟨⟨⟨ds,gs,before,hw,_⟩,hx⟩,_⟩:=hpre
 refine (contract (w.forCall tape i) w.heap.size i.args ds gs before hval (DataW.Whole.of_heap (w':=w.forCall tape i) (by rfl) hw) (hX _ _ _ (by rfl) hx) hsh).mono fun e W' ⟨v,he,hp⟩=>?_
 subst he
 exact ChangeSpec.post_blind hp
theorem brokerTakes.own:ownKnob Tryz.prog.godebug=none:=by kernel_rfl
theorem brokerTakes.laidOut:laidOutB Tryz.prog=true:=by kernel_rfl
set_option maxRecDepth 100000 in
theorem brokerTakes.lifted (os:Os) (started:os.Started) (H:Type) (enc:TypeId×Value->H) :
  ReturnsInHanded {} Tryz.checked os 8 .any (fun w args=>(Rows.brokerTakesSpec.pre enc Tryz.prog Tryz.f8 [] false w args/\laidMetH Tryz.prog Rows.brokerTakesRow.laid w)/\sizedMet enc Tryz.prog Tryz.f8 (OpenSpec.ofChange Rows.brokerTakesSpec) false w args)
   (Rows.brokerTakesSpec.post enc Tryz.prog Tryz.f8 false true false false):=by
 refine zfo (C:=Tryz.checked) (X:=fun w _=>laidMetH Tryz.prog Rows.brokerTakesRow.laid w) (fun _ _ _ hh h=>h.of_heap hh) brokerTakes.own started (by kernel_rfl) Tryz.func8
  (ChangeSpec.witness_shaped (enc:=enc) (C:=Tryz.checked) (os:=os) (X:=fun w _=>laidMetH Tryz.prog Rows.brokerTakesRow.laid w) false (World.laidAll Tryz.prog os Rows.brokerTakesRow.laid) #[.bool false, .bool false, .int .u8 0] 8 (World.laidAll_os _ _ _)
    (World.shaped_of_ZipB (by kernel_rfl) (by kernel_rfl)) (by kernel_rfl) (by kernel_rfl) (by kernel_rfl)
    (by rw [MakeChecks.laidMetH_plain _ _ _ (by kernel_rfl)];exact laidMet_laidAll _ (by kernel_rfl) (by kernel_rfl))) ?_
 intro W base args ds gs before hval0 hW hL hsh
 have hval:∀ (j:Nat) t v,Tryz.f8.params[j]? = some t->args[j]? = some v->Value.okWide Tryz.prog W .any base t v:=hval0
 have hW':=hW
 obtain ⟨p,q,hA0,hV,rfl,hfz,hnd⟩:=hW
 have hA:DataW.TrodAll enc Tryz.prog W 0 (fun _=>true) true Tryz.f8.params.toList args.toList ds p:=hA0
 rw [Tryz.params8] at hA hval
 obtain ⟨v0,vs0,d0,ds0,p0,q0,hargs,rfl,rfl,h0,r0⟩:=trodAll_cons hA
 obtain ⟨v1,vs1,d1,ds1,p1,q1,rfl,rfl,rfl,h1,r1⟩:=trodAll_cons r0
 obtain ⟨v2,vs2,d2,ds2,p2,q2,rfl,rfl,rfl,h2,r2⟩:=trodAll_cons r1
 obtain ⟨rfl,rfl,rfl⟩:=trodAll_nil r2
 obtain rfl:args = #[v0,v1,v2]:=by cases args;simp_all
 obtain ⟨rfl,rfl⟩:=trodVars_none hV
 have k0:=h0
 have lt0:∀ x∈p0,x.block<W.heap.size:=by obtain ⟨m,hm⟩:=k0;exact DataW.trod_lt m _ _ _ hm
 have k1:=h1
 have lt1:∀ x∈p1,x.block<W.heap.size:=by obtain ⟨m,hm⟩:=k1;exact DataW.trod_lt m _ _ _ hm
 have k2:=h2
 have lt2:∀ x∈p2,x.block<W.heap.size:=by obtain ⟨m,hm⟩:=k2;exact DataW.trod_lt m _ _ _ hm
 clear hA0 hval0
 refine (brokerTakes.walk W base (hval 0 4 v0 rfl rfl) h0 (hval 1 4 v1 rfl rfl) h1 (hval 2 5 v2 rfl rfl) h2 hL hsh).mono fun e W' ⟨he,bel⟩=>?_
 subst he
 exact ⟨_,rfl,_,_,_,[],_,[],hW',trodAll_mk1 (shut_bool Tryz.underlying4 _),(trodAll_cons_mk (Below.trod brokerTakes.laidOut (by kernel_rfl) (of_decide_eq_true (by kernel_rfl)) k0 bel lt0) (trodAll_cons_mk (Below.trod brokerTakes.laidOut (by kernel_rfl) (of_decide_eq_true (by kernel_rfl)) k1 bel lt1) (trodAll_cons_mk (Below.trod brokerTakes.laidOut (by kernel_rfl) (of_decide_eq_true (by kernel_rfl)) k2 bel lt2) trodAll_mk0))),rfl,bel.frame _,fun h=>by cases h⟩
theorem and_t {a b:Bool} (h1:a=true) (h2:b=true):(a&&b)=true:=by rw [h1,h2];rfl
set_option maxHeartbeats 40000000 in
theorem brokerTakes.closed:joinedFacts Tryz.prog 8 Tryz.f8 Rows.brokerTakesSpec Rows.brokerTakesRow=true:=by
 unfold joinedFacts
 repeat' (with_reducible apply and_t)
 all_goals (as_aux_lemma=>kernel_rfl)
theorem brokerTakes.over:Rows.brokerTakesRow.holds Tryz.pinned (OpenSpec.ofChange Rows.brokerTakesSpec) :=
 OpenClaim.holds_of_wide 8 Tryz.f8 rfl rfl rfl rfl rfl rfl rfl ⟨rfl,rfl,rfl,rfl,rfl⟩ rfl rfl rfl rfl rfl (by kernel_rfl) Tryz.func8 brokerTakes.closed
  (of_decide_eq_true (by kernel_rfl)) (by unfold Func.isWrapper;first | (rw [if_pos (by decide +kernel)];kernel_rfl) | (rw [if_neg (by decide +kernel)];exact ⟨rfl,rfl⟩))
  (fun os started H enc _=>brokerTakes.lifted os started H enc)
theorem brokerTakes.plain (f:FuncId) (fn:Func) (hf:Tryz.pinned.checked.prog.funcNamed "hubbub/hubbublaw20.BrokerTakes" = some f) (hfn:Tryz.pinned.checked.prog.funcs[f]? = some fn) :
  false=Tryz.pinned.checked.prog.looks []/\∀ (j:Nat) t,fn.params[j]? = some t->Tryz.pinned.checked.prog.wantsStandIn t=false:=by
 obtain rfl:f=8:=Option.some.inj ((show Tryz.prog.funcNamed "hubbub/hubbublaw20.BrokerTakes" = some 8 by kernel_rfl).symm.trans hf) |>.symm
 obtain rfl:fn=Tryz.f8:=(Option.some.inj (Tryz.func8.symm.trans hfn)).symm
 refine ⟨by kernel_rfl,fun j t ht=>?_⟩
 rw [Tryz.params8] at ht
 have hm:t∈[4,4,5]:=by simpa using Array.mem_of_getElem? ht
 have hall:([4,4,5].all fun u=>!Tryz.prog.wantsStandIn u)=true:=by kernel_rfl
 exact (show Tryz.prog.wantsStandIn t=false by simpa using List.all_eq_true.1 hall t hm)
theorem brokerTakes.proved:Rows.BrokerTakesCardSaid :=
 Claim7.holds_tied_plain_at .later [] _ _ _ _ brokerTakes.over (fun _ h=>by cases h) (by as_aux_lemma=>kernel_rfl) (fun _ h=>by cases h) brokerTakes_row_tie rfl ⟨rfl,rfl⟩ (by as_aux_lemma=>kernel_rfl) rfl brokerTakes.plain (by as_aux_lemma=>kernel_rfl)
#print axioms brokerTakes.proved
end
end Go.Proofs.YtgekknefphagbaaGreatDoor
