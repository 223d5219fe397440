/- TableWrong: of two tables that are not both right the right one counts: the given statement as its tied card, without a condition of its own. -/
import Derived.Test.YtifdpbghkccaoaaGreatDoorKfx
import Derived.Test.YtifdpbghkccaoaaGreatDoorMwx
import Derived.Test.YtifdpbghkccaoaaGreatDoorSsx
import Derived.Test.YtifdpbghkccaoaaGreatDoorCards
import Derived.Test.YtifdpbghkccaoaaGreatDoorTie
import Derived.Lay
import Derived.PinnedBridge
import Derived.Shelf.Vars
import Derived.SevenTiedAt
import Derived.LaidMore
import Derived.OpenShut
import Derived.ChangeMaps5
namespace Go.Proofs.YtifdpbghkccaoaaGreatDoor
open Go.RowKit Go.ChangeMaps Go.ChangeShapes Go.WideShapes Go.ChangeAt Go.Joins Go.Deep
set_option linter.unusedSimpArgs false
set_option linter.unusedVariables false
set_option maxRecDepth 100000
section
theorem bs_of (s:ByteArray):bs s.data.toList=s:=by cases s;simp [bs]
theorem wf_u8 {x:Int} (h:(Lit.int .u8 x).wf=true):0<=x/\x<=255:=by simpa [Lit.wf,IntKind.min,IntKind.max,IntKind.bits,IntKind.signed] using h
theorem u8Extra:U8Extra Tryz.prog laySplit_ren:=⟨by kernel_rfl,by kernel_rfl,by kernel_rfl,by kernel_rfl,by kernel_rfl,by kernel_rfl,by kernel_rfl⟩
theorem maxLen_of {w:World} (h:w.ShapedOpen Tryz.prog):∃ m,w.cell? ⟨0,0,none⟩=some (.int .i64 m):=cell_of_shapedOpen_int (P:=Tryz.prog) (g:=0) (t:=3) (zero:=#[.int .i64 0]) h (of_decide_eq_true (by kernel_rfl)) (by kernel_rfl) rfl (by kernel_rfl) (by kernel_rfl) Tryz.underlying3
theorem tabs_of {w:World} (h:laidMetH Tryz.prog Rows.tableWrongRow.laid w):Go.Lib.Utf8Tabs 1 2 w:=by
 rw [MakeChecks.laidMetH_plain _ _ _ (by kernel_rfl)] at h
 have h1:=Go.Lib.laidMet.reads h (n := "unicode/utf8.first") (d:=Rows.laid_unicode_utf8_first) (by unfold Rows.tableWrongRow;simp)
 have h2:=Go.Lib.laidMet.reads h (n := "unicode/utf8.acceptRanges") (d:=Rows.laid_unicode_utf8_acceptRanges) (by unfold Rows.tableWrongRow;simp)
 rw [show Rows.laid_unicode_utf8_first=Go.Lib.firstData from Pinned.utf8First_eq] at h1
 rw [show (Rows.laid_unicode_utf8_acceptRanges:DataW Unit)=Go.Lib.acceptData from by kernel_rfl] at h2
 exact utf8Tabs_of_reads { laySplit with } u8Extra h1 h2
theorem pow_reads {w:World} (h:laidMetH Tryz.prog Rows.tableWrongRow.laid w):Go.Lib.VarReads Tryz.prog w "internal/strconv.uint64pow10" (Go.Lib.tabData .u64 Go.Lib.pow10Tab):=by
 rw [MakeChecks.laidMetH_plain _ _ _ (by kernel_rfl)] at h
 have h1:=Go.Lib.laidMet.reads h (n := "internal/strconv.uint64pow10") (d:=Rows.laid_internal_strconv_uint64pow10) (by unfold Rows.tableWrongRow;simp)
 rw [show (Rows.laid_internal_strconv_uint64pow10:DataW Unit)=Go.Lib.tabData .u64 Go.Lib.pow10Tab from by kernel_rfl] at h1
 exact h1
section
variable {H:Type} {enc:TypeId×Value->H} {W:World}
theorem ofNat_back {x:Int} (h:0<=x/\x<=255):(((UInt8.ofNat x.toNat).toNat:Nat):Int)=x:=by simp;omega
theorem opens_byte:Opens Tryz.prog enc W 5 1 u8 (fun _=>True):=fun cs n y hl ht=>by
 obtain ⟨a,e,_,wf⟩:=DataW.trod_int Tryz.underlying5 ht
 subst e
 refine ⟨UInt8.ofNat a.toNat,trivial,fun o ho=>?_⟩
 have:o=0:=by omega
 subst this
 show R (stable W []) W (.int .u8 a) (.int .u8 (((UInt8.ofNat a.toNat).toNat:Nat):Int))
 rw [ofNat_back (wf_u8 wf)]
 exact .int _ _
theorem cell_u8 {cs:List Value} {o:Nat} {a:Int} (h:cs[o]? = some (.int .u8 a)):R (stable W []) W (cs.getD o undef) (.int .u8 a):=by
 rw [List.getD_eq_getElem?_getD,h];exact .int _ _
theorem opens_deed:Opens Tryz.prog enc W 46 4 encDeed deedR:=fun cs n y hl ht=>by
 have hl':cs.length=Tryz.prog.cellsOf 46:=hl.trans (by kernel_rfl)
 obtain ⟨a,ha,wa⟩:=int_at ht hl' 1 0 0 5 .u8 (by kernel_rfl) (by kernel_rfl) Tryz.underlying5
 obtain ⟨b,hb,wb⟩:=int_at ht hl' 1 1 1 5 .u8 (by kernel_rfl) (by kernel_rfl) Tryz.underlying5
 obtain ⟨c,hc,wc⟩:=int_at ht hl' 1 2 2 5 .u8 (by kernel_rfl) (by kernel_rfl) Tryz.underlying5
 obtain ⟨v,n',y',hv,hy⟩:=leaf_at ht hl' 1 3 3 44 (by kernel_rfl) (by kernel_rfl)
 obtain ⟨A,len,cap,hs,hE⟩:=elems_of_cell (C:=1) Tryz.underlying44 (by kernel_rfl) (by decide) hy
 obtain ⟨xs,h1,_,h3⟩:=open_elems (C:=1) (by decide) (fun a=>rfl) opens_byte hE
 have hs:v = .slice A len cap:=by simpa using hs
 subst hs
 refine ⟨⟨a,b,c,xs⟩,⟨wf_u8 wa,wf_u8 wb,wf_u8 wc⟩,fun o ho=>?_⟩
 match o,ho with
 | 0,_=>exact cell_u8 ha
 | 1,_=>exact cell_u8 hb
 | 2,_=>exact cell_u8 hc
 | 3,_=>rw [List.getD_eq_getElem?_getD,hv];exact h3
end
def i64 (x:Int):Prop:=-9223372036854775808<=x/\x<=9223372036854775807
def InD (d:TDot):Prop:=i64 d.node/\i64 d.epoch/\i64 d.n
def InC (c:TCell):Prop:=InD c.dot/\i64 c.stamp.l/\i64 c.stamp.c/\i64 c.stamp.node/\i64 c.qos
section
variable {H:Type} {enc:TypeId×Value->H} {W:World}
theorem wf_i64 {x:Int} (h:(Lit.int .i64 x).wf=true):i64 x:=by
 have : -9223372036854775808<=x/\x<=9223372036854775807:=by simpa [Lit.wf,IntKind.min,IntKind.max,IntKind.bits,IntKind.signed] using h
 exact this
theorem at_int {cs:List Value} {o:Nat} {k:IntKind} {a:Int} (h:cs[o]? = some (.int k a)):R (stable W []) W (cs.getD o undef) (.int k a):=by
 rw [List.getD_eq_getElem?_getD,h];exact .int _ _
theorem at_str {cs:List Value} {o:Nat} {a:ByteArray} (h:cs[o]? = some (.string a)):R (stable W []) W (cs.getD o undef) (.str a.data.toList):=by
 rw [List.getD_eq_getElem?_getD,h];have:=R.str (S:=stable W []) (w:=W) a.data.toList;rw [bs_of] at this;exact this
theorem at_bool {cs:List Value} {o:Nat} {a:Bool} (h:cs[o]? = some (.bool a)):R (stable W []) W (cs.getD o undef) (.bool a):=by
 rw [List.getD_eq_getElem?_getD,h];exact .bool _
theorem at_val {cs:List Value} {o:Nat} {a:Value} {d:V} (h:cs[o]? = some a) (r:R (stable W []) W a d):R (stable W []) W (cs.getD o undef) d:=by
 rw [List.getD_eq_getElem?_getD,h];exact r
theorem opens_dot:Opens Tryz.prog enc W 55 3 encDot InD:=fun cs n y hl ht=>by
 have hl':cs.length=Tryz.prog.cellsOf 55:=hl.trans (by kernel_rfl)
 obtain ⟨a,ha,wa⟩:=int_at ht hl' 3 0 0 3 .i64 (by kernel_rfl) (by kernel_rfl) Tryz.underlying3
 obtain ⟨b,hb,wb⟩:=int_at ht hl' 3 1 1 3 .i64 (by kernel_rfl) (by kernel_rfl) Tryz.underlying3
 obtain ⟨c,hc,wc⟩:=int_at ht hl' 3 2 2 3 .i64 (by kernel_rfl) (by kernel_rfl) Tryz.underlying3
 refine ⟨⟨a,b,c⟩,⟨wf_i64 wa,wf_i64 wb,wf_i64 wc⟩,fun o ho=>?_⟩
 match o,ho with
 | 0,_=>exact at_int ha
 | 1,_=>exact at_int hb
 | 2,_=>exact at_int hc
theorem opens_fence:Opens Tryz.prog enc W 41 2 encFence (fun x=>i64 x.node/\i64 x.epoch):=fun cs n y hl ht=>by
 have hl':cs.length=Tryz.prog.cellsOf 41:=hl.trans (by kernel_rfl)
 obtain ⟨a,ha,wa⟩:=int_at ht hl' 3 0 0 3 .i64 (by kernel_rfl) (by kernel_rfl) Tryz.underlying3
 obtain ⟨b,hb,wb⟩:=int_at ht hl' 3 1 1 3 .i64 (by kernel_rfl) (by kernel_rfl) Tryz.underlying3
 refine ⟨⟨a,b⟩,⟨wf_i64 wa,wf_i64 wb⟩,fun o ho=>?_⟩
 match o,ho with
 | 0,_=>exact at_int ha
 | 1,_=>exact at_int hb
theorem opens_route:Opens Tryz.prog enc W 68 4 encRoute (fun x=>InD x.dot):=fun cs n y hl ht=>by
 have hl':cs.length=Tryz.prog.cellsOf 68:=hl.trans (by kernel_rfl)
 obtain ⟨a,ha,wa⟩:=int_at ht hl' 3 0 0 3 .i64 (by kernel_rfl) (by kernel_rfl) Tryz.underlying3
 obtain ⟨b,hb,wb⟩:=int_at ht hl' 3 1 1 3 .i64 (by kernel_rfl) (by kernel_rfl) Tryz.underlying3
 obtain ⟨c,hc,wc⟩:=int_at ht hl' 3 2 2 3 .i64 (by kernel_rfl) (by kernel_rfl) Tryz.underlying3
 obtain ⟨g,hg,_⟩:=string_at ht hl' 3 3 3 9 (by kernel_rfl) (by kernel_rfl) Tryz.underlying9
 refine ⟨⟨⟨a,b,c⟩,g.data.toList⟩,⟨wf_i64 wa,wf_i64 wb,wf_i64 wc⟩,fun o ho=>?_⟩
 match o,ho with
 | 0,_=>exact at_int ha
 | 1,_=>exact at_int hb
 | 2,_=>exact at_int hc
 | 3,_=>exact at_str hg
theorem opens_cell:Opens Tryz.prog enc W 76 10 encCell InC:=fun cs n y hl ht=>by
 have hl':cs.length=Tryz.prog.cellsOf 76:=hl.trans (by kernel_rfl)
 obtain ⟨a,ha,wa⟩:=int_at ht hl' 3 0 0 3 .i64 (by kernel_rfl) (by kernel_rfl) Tryz.underlying3
 obtain ⟨b,hb,wb⟩:=int_at ht hl' 3 1 1 3 .i64 (by kernel_rfl) (by kernel_rfl) Tryz.underlying3
 obtain ⟨c,hc,wc⟩:=int_at ht hl' 3 2 2 3 .i64 (by kernel_rfl) (by kernel_rfl) Tryz.underlying3
 obtain ⟨d,hd,wd⟩:=int_at ht hl' 3 3 3 2 .i64 (by kernel_rfl) (by kernel_rfl) Tryz.underlying2
 obtain ⟨e,he,we⟩:=int_at ht hl' 3 4 4 2 .i64 (by kernel_rfl) (by kernel_rfl) Tryz.underlying2
 obtain ⟨f,hf,wf⟩:=int_at ht hl' 3 5 5 3 .i64 (by kernel_rfl) (by kernel_rfl) Tryz.underlying3
 obtain ⟨g,hg,_⟩:=string_at ht hl' 3 6 6 9 (by kernel_rfl) (by kernel_rfl) Tryz.underlying9
 obtain ⟨v7,n7,y7,hv7,hy7⟩:=leaf_at ht hl' 3 7 7 44 (by kernel_rfl) (by kernel_rfl)
 obtain ⟨A7,len7,cap7,hs7,hE7⟩:=elems_of_cell (C:=1) Tryz.underlying44 (by kernel_rfl) (by decide) hy7
 obtain ⟨p,_,qp,rp⟩:=open_elems (C:=1) (by decide) (fun a=>rfl) opens_byte hE7
 have hs7:v7 = .slice A7 len7 cap7:=by simpa using hs7
 subst hs7
 obtain ⟨q,hq,wq⟩:=int_at ht hl' 3 8 8 3 .i64 (by kernel_rfl) (by kernel_rfl) Tryz.underlying3
 obtain ⟨bb,hbb⟩:=bool_at ht hl' 3 9 9 4 (by kernel_rfl) (by kernel_rfl) Tryz.underlying4
 refine ⟨⟨⟨a,b,c⟩,⟨d,e,f⟩,g.data.toList,p,q,bb⟩,⟨⟨wf_i64 wa,wf_i64 wb,wf_i64 wc⟩,wf_i64 wd,wf_i64 we,wf_i64 wf,wf_i64 wq⟩,fun o ho=>?_⟩
 match o,ho with
 | 0,_=>exact at_int ha
 | 1,_=>exact at_int hb
 | 2,_=>exact at_int hc
 | 3,_=>exact at_int hd
 | 4,_=>exact at_int he
 | 5,_=>exact at_int hf
 | 6,_=>exact at_str hg
 | 7,_=>exact at_val hv7 rp
 | 8,_=>exact at_int hq
 | 9,_=>exact at_bool hbb
theorem open_table {base:Nat} {v:Value} {d:DataW H} {p:List MemPlace} (o:Value.okWide Tryz.prog W .any base 32 v) (h:DataW.Trod enc Tryz.prog W 0 (fun _=>true) true 32 v d p) :
  ∃ t:TTable,R (stable W []) W v (encTable t):=by
 obtain ⟨cs,rfl,hz⟩:=okWide_struct Tryz.underlying32 o
 obtain ⟨fuel,ht⟩:=h
 have hl':cs.toList.length=Tryz.prog.cellsOf 32:=by simpa using hz
 obtain ⟨v0,n0,y0,hv0,hy0⟩:=leaf_at ht hl' 3 0 0 27 (by kernel_rfl) (by kernel_rfl)
 obtain ⟨A0,len0,cap0,hs0,hE0⟩:=elems_of_cell (C:=3) Tryz.underlying27 (by kernel_rfl) (by decide) hy0
 obtain ⟨ts,_,qts,rts⟩:=open_elems (C:=3) (by decide) (fun a=>rfl) opens_dot hE0
 have hs0:v0 = .slice A0 len0 cap0:=by simpa using hs0
 subst hs0
 obtain ⟨v1,n1,y1,hv1,hy1⟩:=leaf_at ht hl' 3 1 1 28 (by kernel_rfl) (by kernel_rfl)
 obtain ⟨A1,len1,cap1,hs1,hE1⟩:=elems_of_cell (C:=2) Tryz.underlying28 (by kernel_rfl) (by decide) hy1
 obtain ⟨tf,_,qtf,rtf⟩:=open_elems (C:=2) (by decide) (fun a=>rfl) opens_fence hE1
 have hs1:v1 = .slice A1 len1 cap1:=by simpa using hs1
 subst hs1
 obtain ⟨v2,n2,y2,hv2,hy2⟩:=leaf_at ht hl' 3 2 2 29 (by kernel_rfl) (by kernel_rfl)
 obtain ⟨A2,len2,cap2,hs2,hE2⟩:=elems_of_cell (C:=4) Tryz.underlying29 (by kernel_rfl) (by decide) hy2
 obtain ⟨tr,_,qtr,rtr⟩:=open_elems (C:=4) (by decide) (fun a=>rfl) opens_route hE2
 have hs2:v2 = .slice A2 len2 cap2:=by simpa using hs2
 subst hs2
 obtain ⟨v3,n3,y3,hv3,hy3⟩:=leaf_at ht hl' 3 3 3 30 (by kernel_rfl) (by kernel_rfl)
 obtain ⟨A3,len3,cap3,hs3,hE3⟩:=elems_of_cell (C:=10) Tryz.underlying30 (by kernel_rfl) (by decide) hy3
 obtain ⟨tc,_,qtc,rtc⟩:=open_elems (C:=10) (by decide) (fun a=>rfl) opens_cell hE3
 have hs3:v3 = .slice A3 len3 cap3:=by simpa using hs3
 subst hs3
 have h4:cs.size=4:=hz.trans (by kernel_rfl)
 refine ⟨⟨ts,tf,tr,tc⟩,?_⟩
 refine R.agg _ _ h4 fun k hk=>?_
 have e (i:Nat):cs.getD i undef=cs.toList.getD i undef:=by
  rw [Array.getD_eq_getD_getElem?,<-Array.getElem?_toList,List.getD_eq_getElem?_getD]
 rw [e]
 match k,hk with
 | 0,_=>exact at_val hv0 rts
 | 1,_=>exact at_val hv1 rtf
 | 2,_=>exact at_val hv2 rtr
 | 3,_=>exact at_val hv3 rtc
end
theorem tableWrong.walk {H:Type} {enc:TypeId×Value->H} (W:World) (base:Nat) {v0 v1:Value} {d0 d1:DataW H} {p0 p1:List MemPlace}
  (o0:Value.okWide Tryz.prog W .any base 32 v0) (h0:DataW.Trod enc Tryz.prog W 0 (fun _=>true) true 32 v0 d0 p0)
  (o1:Value.okWide Tryz.prog W .any base 22 v1) (h1:DataW.Trod enc Tryz.prog W 0 (fun _=>true) true 22 v1 d1 p1)
  (hL:laidMetH Tryz.prog Rows.tableWrongRow.laid W) (hsh:W.ShapedOpen Tryz.prog) :
  Calls Tryz.prog 6 #[v0,v1] W fun e w'=>e = .returned (.bool true)/\Below W.heap.size W w':=by
 obtain ⟨x0,hr0⟩:=open_table o0 h0
 obtain ⟨A1,len1,cap1,rfl,hE1⟩:=elems_of (C:=4) Tryz.underlying22 (by kernel_rfl) (by decide) o1 h1
 obtain ⟨x1,hl1,hq1,hr1⟩:=open_elems (C:=4) (by decide) (fun a=>rfl) opens_deed hE1
 obtain ⟨m,hm⟩:=maxLen_of hsh
 obtain ⟨T5,fr,hp⟩:=pow_obj (pow_reads hL)
 have hw:=tableWrong_dc x0 x1 T5 fr m [] hq1
 refine DC.lawR (args:=[encTable x0, .sl (x1.map encDeed)]) hw (known_sim (tabs_of hL) hm).1 known_know hp rfl fun k hk=>?_
 match k,hk with
 | 0,_=>exact hr0
 | 1,_=>exact hr1
theorem handed_and_shaped {H:Type} {enc:TypeId×Value->H} {a:Assume} {C:Checked} {os:Os} {f:FuncId} {fn:Func} {s:ChangeSpec} {conds:List PathCond} {apart fresh handsOn again:Bool} {X:World->Array Value->Prop}
  (hX:∀ (w w':World) (args:Array Value),w.heap=w'.heap->X w args->X w' args)
  (own:ownKnob C.prog.godebug=none) (started:os.Started) (noInit:C.prog.inits.idxOf? f=none) (hfn:C.prog.funcs[f]? = some fn)
  (witness:∃ (w:World) (tape:Tape) (i:Input),w.os=os/\(w.forCall tape i).Shaped C.prog/\i.vars=[]/\Input.okWide C.prog (w.forCall tape i) .any w.heap.size f i /\
    ((s.pre enc C.prog fn conds apart (w.forCall tape i).memory i.args/\X (w.forCall tape i).memory i.args)/\sizedMet enc C.prog fn (OpenSpec.ofChange s) apart (w.forCall tape i).memory i.args)/\a.holds C.prog (lone (Frame.enter C.prog f i.args .normal) [] (w.forCall tape i)))
  (contract:∀ (W:World) (base:Nat) (args:Array Value) (ds gs:List (DataW H)) (before:List MemPlace),
    (∀ (j:Nat) t v,fn.params[j]? = some t->args[j]? = some v->Value.okWide C.prog W .any base t v)->DataW.Whole enc C.prog fn.params.toList s.vars apart W args.toList ds gs before->X W args->W.ShapedOpen C.prog ->
    Calls C.prog f args W fun e W'=>∃ v,e = .returned v/\s.post enc C.prog fn apart fresh handsOn again W args v W') :
  ReturnsInHanded a C os f .any (fun w args=>(s.pre enc C.prog fn conds apart w args/\X w args)/\sizedMet enc C.prog fn (OpenSpec.ofChange s) apart w args) (s.post enc C.prog fn apart fresh handsOn again):=by
 refine returnsInHanded_of_calls own started noInit witness ?_
 intro w tape i _ hsh _ hok hpre _
 obtain ⟨_,_,_,fn',hfn',_,_,_,_,hval⟩:=hok
 obtain rfl:fn'=fn:=Option.some.inj (hfn'.symm.trans hfn)
 obtain ⟨⟨⟨ds,gs,before,hw,_⟩,hx⟩,_⟩:=hpre
 refine (contract (w.forCall tape i) w.heap.size i.args ds gs before hval (DataW.Whole.of_heap (w':=w.forCall tape i) (by rfl) hw) (hX _ _ _ (by rfl) hx) hsh).mono fun e W' ⟨v,he,hp⟩=>?_
 subst he
 exact ChangeSpec.post_blind hp
theorem tableWrong.own:ownKnob Tryz.prog.godebug=none:=by kernel_rfl
theorem tableWrong.laidOut:laidOutB Tryz.prog=true:=by kernel_rfl
set_option maxRecDepth 100000 in
theorem tableWrong.lifted (os:Os) (started:os.Started) (H:Type) (enc:TypeId×Value->H) :
  ReturnsInHanded {} Tryz.checked os 6 .any (fun w args=>(Rows.tableWrongSpec.pre enc Tryz.prog Tryz.f6 [] false w args/\laidMetH Tryz.prog Rows.tableWrongRow.laid w)/\sizedMet enc Tryz.prog Tryz.f6 (OpenSpec.ofChange Rows.tableWrongSpec) false w args)
   (Rows.tableWrongSpec.post enc Tryz.prog Tryz.f6 false true false false):=by
 refine handed_and_shaped (C:=Tryz.checked) (X:=fun w _=>laidMetH Tryz.prog Rows.tableWrongRow.laid w) (fun _ _ _ hh h=>h.of_heap hh) tableWrong.own started (by kernel_rfl) Tryz.func6
  (ChangeSpec.witness_shaped (enc:=enc) (C:=Tryz.checked) (os:=os) (X:=fun w _=>laidMetH Tryz.prog Rows.tableWrongRow.laid w) false (World.laidAll Tryz.prog os Rows.tableWrongRow.laid) #[.agg #[.slice none 0 0, .slice none 0 0, .slice none 0 0, .slice none 0 0], .slice none 0 0] 8 (World.laidAll_os _ _ _)
    (World.shaped_of_ZipB (by kernel_rfl) (by kernel_rfl)) (by kernel_rfl) (by kernel_rfl) (by kernel_rfl)
    (by rw [MakeChecks.laidMetH_plain _ _ _ (by kernel_rfl)];exact laidMet_laidAll _ (by kernel_rfl) (by kernel_rfl))) ?_
 intro W base args ds gs before hval0 hW hL hsh
 have hval:∀ (j:Nat) t v,Tryz.f6.params[j]? = some t->args[j]? = some v->Value.okWide Tryz.prog W .any base t v:=hval0
 have hW':=hW
 obtain ⟨p,q,hA0,hV,rfl,hfz,hnd⟩:=hW
 have hA:DataW.TrodAll enc Tryz.prog W 0 (fun _=>true) true Tryz.f6.params.toList args.toList ds p:=hA0
 rw [Tryz.params6] at hA hval
 obtain ⟨v0,vs0,d0,ds0,p0,q0,hargs,rfl,rfl,h0,r0⟩:=trodAll_cons hA
 obtain ⟨v1,vs1,d1,ds1,p1,q1,rfl,rfl,rfl,h1,r1⟩:=trodAll_cons r0
 obtain ⟨rfl,rfl,rfl⟩:=trodAll_nil r1
 obtain rfl:args = #[v0,v1]:=by cases args;simp_all
 obtain ⟨rfl,rfl⟩:=trodVars_none hV
 have k0:=h0
 have lt0:∀ x∈p0,x.block<W.heap.size:=by obtain ⟨m,hm⟩:=k0;exact DataW.trod_lt m _ _ _ hm
 have k1:=h1
 have lt1:∀ x∈p1,x.block<W.heap.size:=by obtain ⟨m,hm⟩:=k1;exact DataW.trod_lt m _ _ _ hm
 clear hA0 hval0
 refine (tableWrong.walk W base (hval 0 32 v0 rfl rfl) h0 (hval 1 22 v1 rfl rfl) h1 hL hsh).mono fun e W' ⟨he,bel⟩=>?_
 subst he
 exact ⟨_,rfl,_,_,_,[],_,[],hW',trodAll_mk1 (shut_bool Tryz.underlying4 _),(trodAll_cons_mk (Below.trod tableWrong.laidOut (by kernel_rfl) (of_decide_eq_true (by kernel_rfl)) k0 bel lt0) (trodAll_cons_mk (Below.trod tableWrong.laidOut (by kernel_rfl) (of_decide_eq_true (by kernel_rfl)) k1 bel lt1) trodAll_mk0)),rfl,bel.frame _,fun h=>by cases h⟩
theorem and_t {a b:Bool} (h1:a=true) (h2:b=true):(a&&b)=true:=by rw [h1,h2];rfl
set_option maxHeartbeats 40000000 in
theorem tableWrong.closed:joinedFacts Tryz.prog 6 Tryz.f6 Rows.tableWrongSpec Rows.tableWrongRow=true:=by
 unfold joinedFacts
 repeat' (with_reducible apply and_t)
 all_goals (as_aux_lemma=>kernel_rfl)
theorem tableWrong.over:Rows.tableWrongRow.holds Tryz.pinned (OpenSpec.ofChange Rows.tableWrongSpec) :=
 OpenClaim.holds_of_wide 6 Tryz.f6 rfl rfl rfl rfl rfl rfl rfl ⟨rfl,rfl,rfl,rfl,rfl⟩ rfl rfl rfl rfl rfl (by kernel_rfl) Tryz.func6 tableWrong.closed
  (of_decide_eq_true (by kernel_rfl)) (by unfold Func.isWrapper;first | (rw [if_pos (by decide +kernel)];kernel_rfl) | (rw [if_neg (by decide +kernel)];exact ⟨rfl,rfl⟩))
  (fun os started H enc _=>tableWrong.lifted os started H enc)
theorem tableWrong.plain (f:FuncId) (fn:Func) (hf:Tryz.pinned.checked.prog.funcNamed "hubbub/hubbublaw12.TableWrong" = some f) (hfn:Tryz.pinned.checked.prog.funcs[f]? = some fn) :
  false=Tryz.pinned.checked.prog.looks []/\∀ (j:Nat) t,fn.params[j]? = some t->Tryz.pinned.checked.prog.wantsStandIn t=false:=by
 obtain rfl:f=6:=Option.some.inj ((show Tryz.prog.funcNamed "hubbub/hubbublaw12.TableWrong" = some 6 by kernel_rfl).symm.trans hf) |>.symm
 obtain rfl:fn=Tryz.f6:=(Option.some.inj (Tryz.func6.symm.trans hfn)).symm
 refine ⟨by kernel_rfl,fun j t ht=>?_⟩
 rw [Tryz.params6] at ht
 have hm:t∈[32,22]:=by simpa using Array.mem_of_getElem? ht
 have hall:([32,22].all fun u=>!Tryz.prog.wantsStandIn u)=true:=by kernel_rfl
 exact (show Tryz.prog.wantsStandIn t=false by simpa using List.all_eq_true.1 hall t hm)
theorem tableWrong.proved:Rows.TableWrongCardSaid :=
 Claim7.holds_tied_plain_at .later [] _ _ _ _ tableWrong.over (fun _ h=>by cases h) (by as_aux_lemma=>kernel_rfl) (fun _ h=>by cases h) tableWrong_row_tie rfl ⟨rfl,rfl⟩ (by as_aux_lemma=>kernel_rfl) rfl tableWrong.plain (by as_aux_lemma=>kernel_rfl)
#print axioms tableWrong.proved
end
end Go.Proofs.YtifdpbghkccaoaaGreatDoor
