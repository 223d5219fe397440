/- FrameTells: which frames may be, field by field, their bytes, and that they come back: the given statement as its tied card, without a condition of its own. -/
import Derived.Test.YtbmbcjmgjdnlnaaGreatDoorFv7x
import Derived.Test.YtbmbcjmgjdnlnaaGreatDoorFq5x
import Derived.Test.YtbmbcjmgjdnlnaaGreatDoorElx
import Derived.Test.YtbmbcjmgjdnlnaaGreatDoorCards
import Derived.Test.YtbmbcjmgjdnlnaaGreatDoorTie
import Derived.Lay
import Derived.PinnedBridge
import Derived.Shelf.Vars
import Derived.SevenTiedAt
import Derived.LaidMore
import Derived.OpenShut
import Derived.ChangeMaps5
namespace Go.Proofs.YtbmbcjmgjdnlnaaGreatDoor
open Go.RowKit Go.ChangeMaps Go.ChangeShapes Go.WideShapes Go.ChangeAt Go.Joins Go.Deep
set_option linter.unusedSimpArgs false
set_option linter.unusedVariables false
set_option maxRecDepth 100000
section
theorem bs_of (s:ByteArray):bs s.data.toList=s:=by cases s;simp [bs]
theorem wf_u8 {x:Int} (h:(Lit.int .u8 x).wf=true):0<=x/\x<=255:=by simpa [Lit.wf,IntKind.min,IntKind.max,IntKind.bits,IntKind.signed] using h
theorem u8Extra:U8Extra Tryz.prog laySplit_ren:=⟨by kernel_rfl,by kernel_rfl,by kernel_rfl,by kernel_rfl,by kernel_rfl,by kernel_rfl,by kernel_rfl⟩
theorem maxLen_of {w:World} (h:w.ShapedOpen Tryz.prog):∃ m,w.cell? ⟨3,0,none⟩=some (.int .i64 m):=cell_of_shapedOpen_int (P:=Tryz.prog) (g:=3) (t:=3) (zero:=#[.int .i64 0]) h (of_decide_eq_true (by kernel_rfl)) (by kernel_rfl) rfl (by kernel_rfl) (by kernel_rfl) Tryz.underlying3
theorem tabs_of {w:World} (h:laidMetH Tryz.prog Rows.frameTellsRow.laid w):Go.Lib.Utf8Tabs 1 2 w:=by
 rw [MakeChecks.laidMetH_plain _ _ _ (by kernel_rfl)] at h
 have h1:=Go.Lib.laidMet.reads h (n := "unicode/utf8.first") (d:=Rows.laid_unicode_utf8_first) (by unfold Rows.frameTellsRow;simp)
 have h2:=Go.Lib.laidMet.reads h (n := "unicode/utf8.acceptRanges") (d:=Rows.laid_unicode_utf8_acceptRanges) (by unfold Rows.frameTellsRow;simp)
 rw [show Rows.laid_unicode_utf8_first=Go.Lib.firstData from Pinned.utf8First_eq] at h1
 rw [show (Rows.laid_unicode_utf8_acceptRanges:DataW Unit)=Go.Lib.acceptData from by kernel_rfl] at h2
 exact utf8Tabs_of_reads { laySplit with } u8Extra h1 h2
section
variable {H:Type} {enc:TypeId×Value->H} {W:World}
theorem ofNat_back {x:Int} (h:0<=x/\x<=255):(((UInt8.ofNat x.toNat).toNat:Nat):Int)=x:=by simp;omega
theorem opens_byte:Opens Tryz.prog enc W 5 1 u8 (fun _=>True):=fun cs n y hl ht=>by
 obtain ⟨a,e,_,wf⟩:=DataW.trod_int Tryz.underlying5 ht
 subst e
 refine ⟨UInt8.ofNat a.toNat,trivial,fun o ho=>?_⟩
 have:o=0:=by omega
 subst this
 show R (stable W []) W (.int .u8 a) (.int .u8 (((UInt8.ofNat a.toNat).toNat:Nat):Int))
 rw [ofNat_back (wf_u8 wf)]
 exact .int _ _
theorem cell_u8 {cs:List Value} {o:Nat} {a:Int} (h:cs[o]? = some (.int .u8 a)):R (stable W []) W (cs.getD o undef) (.int .u8 a):=by
 rw [List.getD_eq_getElem?_getD,h];exact .int _ _
theorem opens_deed:Opens Tryz.prog enc W 86 4 encDeed deedR:=fun cs n y hl ht=>by
 have hl':cs.length=Tryz.prog.cellsOf 86:=hl.trans (by kernel_rfl)
 obtain ⟨a,ha,wa⟩:=int_at ht hl' 1 0 0 5 .u8 (by kernel_rfl) (by kernel_rfl) Tryz.underlying5
 obtain ⟨b,hb,wb⟩:=int_at ht hl' 1 1 1 5 .u8 (by kernel_rfl) (by kernel_rfl) Tryz.underlying5
 obtain ⟨c,hc,wc⟩:=int_at ht hl' 1 2 2 5 .u8 (by kernel_rfl) (by kernel_rfl) Tryz.underlying5
 obtain ⟨v,n',y',hv,hy⟩:=leaf_at ht hl' 1 3 3 29 (by kernel_rfl) (by kernel_rfl)
 obtain ⟨A,len,cap,hs,hE⟩:=elems_of_cell (C:=1) Tryz.underlying29 (by kernel_rfl) (by decide) hy
 obtain ⟨xs,h1,_,h3⟩:=open_elems (C:=1) (by decide) (fun a=>rfl) opens_byte hE
 have hs:v = .slice A len cap:=by simpa using hs
 subst hs
 refine ⟨⟨a,b,c,xs⟩,⟨wf_u8 wa,wf_u8 wb,wf_u8 wc⟩,fun o ho=>?_⟩
 match o,ho with
 | 0,_=>exact cell_u8 ha
 | 1,_=>exact cell_u8 hb
 | 2,_=>exact cell_u8 hc
 | 3,_=>rw [List.getD_eq_getElem?_getD,hv];exact h3
end
section
variable {H:Type} {enc:TypeId×Value->H} {W:World}
theorem wf_i64 {x:Int} (h:(Lit.int .i64 x).wf=true):i64 x:=by
 have : -9223372036854775808<=x/\x<=9223372036854775807:=by simpa [Lit.wf,IntKind.min,IntKind.max,IntKind.bits,IntKind.signed] using h
 exact this
theorem wf_u64 {x:Int} (h:(Lit.int .u64 x).wf=true):0<=x/\x<=18446744073709551615:=by simpa [Lit.wf,IntKind.min,IntKind.max,IntKind.bits,IntKind.signed] using h
theorem at_int {cs:List Value} {o:Nat} {k:IntKind} {a:Int} (h:cs[o]? = some (.int k a)):R (stable W []) W (cs.getD o undef) (.int k a):=by
 rw [List.getD_eq_getElem?_getD,h];exact .int _ _
theorem at_str {cs:List Value} {o:Nat} {a:ByteArray} (h:cs[o]? = some (.string a)):R (stable W []) W (cs.getD o undef) (.str a.data.toList):=by
 rw [List.getD_eq_getElem?_getD,h];have:=R.str (S:=stable W []) (w:=W) a.data.toList;rw [bs_of] at this;exact this
theorem at_bool {cs:List Value} {o:Nat} {a:Bool} (h:cs[o]? = some (.bool a)):R (stable W []) W (cs.getD o undef) (.bool a):=by
 rw [List.getD_eq_getElem?_getD,h];exact .bool _
theorem at_val {cs:List Value} {o:Nat} {a:Value} {d:V} (h:cs[o]? = some a) (r:R (stable W []) W a d):R (stable W []) W (cs.getD o undef) d:=by
 rw [List.getD_eq_getElem?_getD,h];exact r
theorem opens_u64:Opens Tryz.prog enc W 51 1 encU (fun x=>0<=x/\x<=18446744073709551615):=fun cs n y hl ht=>by
 obtain ⟨a,e,_,wf⟩:=DataW.trod_int Tryz.underlying51 ht
 subst e
 refine ⟨a,wf_u64 wf,fun o ho=>?_⟩
 have:o=0:=by omega
 subst this
 exact .int _ _
theorem opens_dot:Opens Tryz.prog enc W 72 3 encDot InD:=fun cs n y hl ht=>by
 have hl':cs.length=Tryz.prog.cellsOf 72:=hl.trans (by kernel_rfl)
 obtain ⟨a,ha,wa⟩:=int_at ht hl' 3 0 0 3 .i64 (by kernel_rfl) (by kernel_rfl) Tryz.underlying3
 obtain ⟨b,hb,wb⟩:=int_at ht hl' 3 1 1 3 .i64 (by kernel_rfl) (by kernel_rfl) Tryz.underlying3
 obtain ⟨c,hc,wc⟩:=int_at ht hl' 3 2 2 3 .i64 (by kernel_rfl) (by kernel_rfl) Tryz.underlying3
 refine ⟨⟨a,b,c⟩,⟨wf_i64 wa,wf_i64 wb,wf_i64 wc⟩,fun o ho=>?_⟩
 match o,ho with
 | 0,_=>exact at_int ha
 | 1,_=>exact at_int hb
 | 2,_=>exact at_int hc
theorem opens_fence:Opens Tryz.prog enc W 82 2 encFence (fun x=>i64 x.node/\i64 x.epoch):=fun cs n y hl ht=>by
 have hl':cs.length=Tryz.prog.cellsOf 82:=hl.trans (by kernel_rfl)
 obtain ⟨a,ha,wa⟩:=int_at ht hl' 3 0 0 3 .i64 (by kernel_rfl) (by kernel_rfl) Tryz.underlying3
 obtain ⟨b,hb,wb⟩:=int_at ht hl' 3 1 1 3 .i64 (by kernel_rfl) (by kernel_rfl) Tryz.underlying3
 refine ⟨⟨a,b⟩,⟨wf_i64 wa,wf_i64 wb⟩,fun o ho=>?_⟩
 match o,ho with
 | 0,_=>exact at_int ha
 | 1,_=>exact at_int hb
theorem opens_route:Opens Tryz.prog enc W 120 4 encRoute (fun x=>InD x.dot):=fun cs n y hl ht=>by
 have hl':cs.length=Tryz.prog.cellsOf 120:=hl.trans (by kernel_rfl)
 obtain ⟨a,ha,wa⟩:=int_at ht hl' 3 0 0 3 .i64 (by kernel_rfl) (by kernel_rfl) Tryz.underlying3
 obtain ⟨b,hb,wb⟩:=int_at ht hl' 3 1 1 3 .i64 (by kernel_rfl) (by kernel_rfl) Tryz.underlying3
 obtain ⟨c,hc,wc⟩:=int_at ht hl' 3 2 2 3 .i64 (by kernel_rfl) (by kernel_rfl) Tryz.underlying3
 obtain ⟨g,hg,_⟩:=string_at ht hl' 3 3 3 9 (by kernel_rfl) (by kernel_rfl) Tryz.underlying9
 refine ⟨⟨⟨a,b,c⟩,g.data.toList⟩,⟨wf_i64 wa,wf_i64 wb,wf_i64 wc⟩,fun o ho=>?_⟩
 match o,ho with
 | 0,_=>exact at_int ha
 | 1,_=>exact at_int hb
 | 2,_=>exact at_int hc
 | 3,_=>exact at_str hg
theorem opens_cell:Opens Tryz.prog enc W 124 10 encCell InC:=fun cs n y hl ht=>by
 have hl':cs.length=Tryz.prog.cellsOf 124:=hl.trans (by kernel_rfl)
 obtain ⟨a,ha,wa⟩:=int_at ht hl' 3 0 0 3 .i64 (by kernel_rfl) (by kernel_rfl) Tryz.underlying3
 obtain ⟨b,hb,wb⟩:=int_at ht hl' 3 1 1 3 .i64 (by kernel_rfl) (by kernel_rfl) Tryz.underlying3
 obtain ⟨c,hc,wc⟩:=int_at ht hl' 3 2 2 3 .i64 (by kernel_rfl) (by kernel_rfl) Tryz.underlying3
 obtain ⟨d,hd,wd⟩:=int_at ht hl' 3 3 3 2 .i64 (by kernel_rfl) (by kernel_rfl) Tryz.underlying2
 obtain ⟨e,he,we⟩:=int_at ht hl' 3 4 4 2 .i64 (by kernel_rfl) (by kernel_rfl) Tryz.underlying2
 obtain ⟨f,hf,wf⟩:=int_at ht hl' 3 5 5 3 .i64 (by kernel_rfl) (by kernel_rfl) Tryz.underlying3
 obtain ⟨g,hg,_⟩:=string_at ht hl' 3 6 6 9 (by kernel_rfl) (by kernel_rfl) Tryz.underlying9
 obtain ⟨v7,n7,y7,hv7,hy7⟩:=leaf_at ht hl' 3 7 7 29 (by kernel_rfl) (by kernel_rfl)
 obtain ⟨A7,len7,cap7,hs7,hE7⟩:=elems_of_cell (C:=1) Tryz.underlying29 (by kernel_rfl) (by decide) hy7
 obtain ⟨p,_,qp,rp⟩:=open_elems (C:=1) (by decide) (fun a=>rfl) opens_byte hE7
 have hs7:v7 = .slice A7 len7 cap7:=by simpa using hs7
 subst hs7
 obtain ⟨q,hq,wq⟩:=int_at ht hl' 3 8 8 3 .i64 (by kernel_rfl) (by kernel_rfl) Tryz.underlying3
 obtain ⟨bb,hbb⟩:=bool_at ht hl' 3 9 9 4 (by kernel_rfl) (by kernel_rfl) Tryz.underlying4
 refine ⟨⟨⟨a,b,c⟩,⟨d,e,f⟩,g.data.toList,p,q,bb⟩,⟨⟨wf_i64 wa,wf_i64 wb,wf_i64 wc⟩,wf_i64 wd,wf_i64 we,wf_i64 wf,wf_i64 wq⟩,fun o ho=>?_⟩
 match o,ho with
 | 0,_=>exact at_int ha
 | 1,_=>exact at_int hb
 | 2,_=>exact at_int hc
 | 3,_=>exact at_int hd
 | 4,_=>exact at_int he
 | 5,_=>exact at_int hf
 | 6,_=>exact at_str hg
 | 7,_=>exact at_val hv7 rp
 | 8,_=>exact at_int hq
 | 9,_=>exact at_bool hbb
theorem open_frame {base:Nat} {v:Value} {d:DataW H} {p:List MemPlace} (o:Value.okWide Tryz.prog W .any base 33 v) (h:DataW.Trod enc Tryz.prog W 0 (fun _=>true) true 33 v d p) :
  ∃ f:TFrame,(InF f/\i64 f.kind)/\R (stable W []) W v (encF f):=by
 obtain ⟨cs,rfl,hz⟩:=okWide_struct Tryz.underlying33 o
 obtain ⟨fuel,ht⟩:=h
 have hl':cs.toList.length=Tryz.prog.cellsOf 33:=by simpa using hz
 obtain ⟨a,ha,wa⟩:=int_at ht hl' 3 0 0 3 .i64 (by kernel_rfl) (by kernel_rfl) Tryz.underlying3
 obtain ⟨b,hb,wb⟩:=int_at ht hl' 3 1 1 3 .i64 (by kernel_rfl) (by kernel_rfl) Tryz.underlying3
 obtain ⟨c,hc,wc⟩:=int_at ht hl' 3 2 2 3 .i64 (by kernel_rfl) (by kernel_rfl) Tryz.underlying3
 obtain ⟨d,hd,wd⟩:=int_at ht hl' 3 3 3 3 .i64 (by kernel_rfl) (by kernel_rfl) Tryz.underlying3
 obtain ⟨v4,n4,y4,hv4,hy4⟩:=leaf_at ht hl' 3 4 4 22 (by kernel_rfl) (by kernel_rfl)
 obtain ⟨A4,len4,cap4,hs4,hE4⟩:=elems_of_cell (C:=1) Tryz.underlying22 (by kernel_rfl) (by decide) hy4
 obtain ⟨su,_,qsu,rsu⟩:=open_elems (C:=1) (by decide) (fun a=>rfl) opens_u64 hE4
 have hs4:v4 = .slice A4 len4 cap4:=by simpa using hs4
 subst hs4
 obtain ⟨v5,n5,y5,hv5,hy5⟩:=leaf_at ht hl' 3 5 5 23 (by kernel_rfl) (by kernel_rfl)
 obtain ⟨A5,len5,cap5,hs5,hE5⟩:=elems_of_cell (C:=3) Tryz.underlying23 (by kernel_rfl) (by decide) hy5
 obtain ⟨se,_,qse,rse⟩:=open_elems (C:=3) (by decide) (fun a=>rfl) opens_dot hE5
 have hs5:v5 = .slice A5 len5 cap5:=by simpa using hs5
 subst hs5
 obtain ⟨v6,n6,y6,hv6,hy6⟩:=leaf_at ht hl' 3 6 6 23 (by kernel_rfl) (by kernel_rfl)
 obtain ⟨A6,len6,cap6,hs6,hE6⟩:=elems_of_cell (C:=3) Tryz.underlying23 (by kernel_rfl) (by decide) hy6
 obtain ⟨ts,_,qts,rts⟩:=open_elems (C:=3) (by decide) (fun a=>rfl) opens_dot hE6
 have hs6:v6 = .slice A6 len6 cap6:=by simpa using hs6
 subst hs6
 obtain ⟨v7,n7,y7,hv7,hy7⟩:=leaf_at ht hl' 3 7 7 24 (by kernel_rfl) (by kernel_rfl)
 obtain ⟨A7,len7,cap7,hs7,hE7⟩:=elems_of_cell (C:=2) Tryz.underlying24 (by kernel_rfl) (by decide) hy7
 obtain ⟨tf,_,qtf,rtf⟩:=open_elems (C:=2) (by decide) (fun a=>rfl) opens_fence hE7
 have hs7:v7 = .slice A7 len7 cap7:=by simpa using hs7
 subst hs7
 obtain ⟨v8,n8,y8,hv8,hy8⟩:=leaf_at ht hl' 3 8 8 25 (by kernel_rfl) (by kernel_rfl)
 obtain ⟨A8,len8,cap8,hs8,hE8⟩:=elems_of_cell (C:=4) Tryz.underlying25 (by kernel_rfl) (by decide) hy8
 obtain ⟨tr,_,qtr,rtr⟩:=open_elems (C:=4) (by decide) (fun a=>rfl) opens_route hE8
 have hs8:v8 = .slice A8 len8 cap8:=by simpa using hs8
 subst hs8
 obtain ⟨v9,n9,y9,hv9,hy9⟩:=leaf_at ht hl' 3 9 9 26 (by kernel_rfl) (by kernel_rfl)
 obtain ⟨A9,len9,cap9,hs9,hE9⟩:=elems_of_cell (C:=10) Tryz.underlying26 (by kernel_rfl) (by decide) hy9
 obtain ⟨tc,_,qtc,rtc⟩:=open_elems (C:=10) (by decide) (fun a=>rfl) opens_cell hE9
 have hs9:v9 = .slice A9 len9 cap9:=by simpa using hs9
 subst hs9
 obtain ⟨s,hs,ws⟩:=int_at ht hl' 3 10 10 3 .i64 (by kernel_rfl) (by kernel_rfl) Tryz.underlying3
 obtain ⟨g,hg,_⟩:=string_at ht hl' 3 11 11 9 (by kernel_rfl) (by kernel_rfl) Tryz.underlying9
 obtain ⟨v12,n12,y12,hv12,hy12⟩:=leaf_at ht hl' 3 12 12 29 (by kernel_rfl) (by kernel_rfl)
 obtain ⟨A12,len12,cap12,hs12,hE12⟩:=elems_of_cell (C:=1) Tryz.underlying29 (by kernel_rfl) (by decide) hy12
 obtain ⟨py,_,qpy,rpy⟩:=open_elems (C:=1) (by decide) (fun a=>rfl) opens_byte hE12
 have hs12:v12 = .slice A12 len12 cap12:=by simpa using hs12
 subst hs12
 obtain ⟨q,hq,wq⟩:=int_at ht hl' 3 13 13 3 .i64 (by kernel_rfl) (by kernel_rfl) Tryz.underlying3
 obtain ⟨bb,hbb⟩:=bool_at ht hl' 3 14 14 4 (by kernel_rfl) (by kernel_rfl) Tryz.underlying4
 have h15:cs.size=15:=hz.trans (by kernel_rfl)
 refine ⟨⟨a,b,c,d,su,se,⟨ts,tf,tr,tc⟩,s,g.data.toList,py,q,bb⟩,⟨⟨qsu,qse,⟨qts,qtf,qtr,qtc⟩⟩,wf_i64 wa⟩,?_⟩
 refine R.agg _ _ h15 fun k hk=>?_
 have e (i:Nat):cs.getD i undef=cs.toList.getD i undef:=by
  rw [Array.getD_eq_getD_getElem?,<-Array.getElem?_toList,List.getD_eq_getElem?_getD]
 rw [e]
 match k,hk with
 | 0,_=>exact at_int ha
 | 1,_=>exact at_int hb
 | 2,_=>exact at_int hc
 | 3,_=>exact at_int hd
 | 4,_=>exact at_val hv4 rsu
 | 5,_=>exact at_val hv5 rse
 | 6,_=>exact at_val hv6 rts
 | 7,_=>exact at_val hv7 rtf
 | 8,_=>exact at_val hv8 rtr
 | 9,_=>exact at_val hv9 rtc
 | 10,_=>exact at_int hs
 | 11,_=>exact at_str hg
 | 12,_=>exact at_val hv12 rpy
 | 13,_=>exact at_int hq
 | 14,_=>exact at_bool hbb
end
theorem frameTells.walk {H:Type} {enc:TypeId×Value->H} (W:World) (base:Nat) {v0 v1 v2 v3 v4 v5 v6 v7:Value} {d0 d1 d2 d3 d4 d5 d6 d7:DataW H} {p0 p1 p2 p3 p4 p5 p6 p7:List MemPlace}
  (o0:Value.okWide Tryz.prog W .any base 33 v0) (h0:DataW.Trod enc Tryz.prog W 0 (fun _=>true) true 33 v0 d0 p0)
  (o1:Value.okWide Tryz.prog W .any base 34 v1) (h1:DataW.Trod enc Tryz.prog W 0 (fun _=>true) true 34 v1 d1 p1)
  (o2:Value.okWide Tryz.prog W .any base 5 v2) (h2:DataW.Trod enc Tryz.prog W 0 (fun _=>true) true 5 v2 d2 p2)
  (o3:Value.okWide Tryz.prog W .any base 5 v3) (h3:DataW.Trod enc Tryz.prog W 0 (fun _=>true) true 5 v3 d3 p3)
  (o4:Value.okWide Tryz.prog W .any base 29 v4) (h4:DataW.Trod enc Tryz.prog W 0 (fun _=>true) true 29 v4 d4 p4)
  (o5:Value.okWide Tryz.prog W .any base 5 v5) (h5:DataW.Trod enc Tryz.prog W 0 (fun _=>true) true 5 v5 d5 p5)
  (o6:Value.okWide Tryz.prog W .any base 3 v6) (h6:DataW.Trod enc Tryz.prog W 0 (fun _=>true) true 3 v6 d6 p6)
  (o7:Value.okWide Tryz.prog W .any base 9 v7) (h7:DataW.Trod enc Tryz.prog W 0 (fun _=>true) true 9 v7 d7 p7)
  (hL:laidMetH Tryz.prog Rows.frameTellsRow.laid W) (hsh:W.ShapedOpen Tryz.prog) :
  Calls Tryz.prog 3 #[v0,v1,v2,v3,v4,v5,v6,v7] W fun e w'=>e = .returned (.bool true)/\Below W.heap.size W w':=by
 obtain ⟨x0,hi0,hr0⟩:=open_frame o0 h0
 obtain ⟨A1,len1,cap1,rfl,hE1⟩:=elems_of (C:=4) Tryz.underlying34 (by kernel_rfl) (by decide) o1 h1
 obtain ⟨x1,hl1,hq1,hr1⟩:=open_elems (C:=4) (by decide) (fun a=>rfl) opens_deed hE1
 obtain ⟨x2,rfl,_,_,w2⟩:=open_int Tryz.underlying5 o2 h2
 obtain ⟨x3,rfl,_,_,w3⟩:=open_int Tryz.underlying5 o3 h3
 obtain ⟨A4,len4,cap4,rfl,hE4⟩:=elems_of (C:=1) Tryz.underlying29 (by kernel_rfl) (by decide) o4 h4
 obtain ⟨x4,hl4,_,hr4⟩:=open_elems (C:=1) (by decide) (fun a=>rfl) opens_byte hE4
 obtain ⟨x5,rfl,_,_,w5⟩:=open_int Tryz.underlying5 o5 h5
 obtain ⟨x6,rfl,_,_,w6⟩:=open_int Tryz.underlying3 o6 h6
 obtain ⟨x7,rfl,_,_,w7⟩:=open_string Tryz.underlying9 o7 h7
 obtain ⟨m,hm⟩:=maxLen_of hsh
 refine DC.lawK (args:=[encF x0, .sl (x1.map encDeed), .int .u8 x2, .int .u8 x3, .sl (x4.map u8), .int .u8 x5, .int .i64 x6, .str x7.data.toList]) (frameTells_dc x0 x1 x2 x3 x4 x5 x6 x7.data.toList m [] ⟨hi0,hq1,wf_u8 w2,wf_u8 w3,wf_u8 w5,wf_i64 w6⟩) (known_sim (tabs_of hL) hm) rfl fun k hk=>?_
 match k,hk with
 | 0,_=>exact hr0
 | 1,_=>exact hr1
 | 2,_=>exact .int _ _
 | 3,_=>exact .int _ _
 | 4,_=>exact hr4
 | 5,_=>exact .int _ _
 | 6,_=>exact .int _ _
 | 7,_=>have:=R.str (S:=stable W []) (w:=W) x7.data.toList;rw [bs_of] at this;exact this
theorem handed_and_shaped {H:Type} {enc:TypeId×Value->H} {a:Assume} {C:Checked} {os:Os} {f:FuncId} {fn:Func} {s:ChangeSpec} {conds:List PathCond} {apart fresh handsOn again:Bool} {X:World->Array Value->Prop}
  (hX:∀ (w w':World) (args:Array Value),w.heap=w'.heap->X w args->X w' args)
  (own:ownKnob C.prog.godebug=none) (started:os.Started) (noInit:C.prog.inits.idxOf? f=none) (hfn:C.prog.funcs[f]? = some fn)
  (witness:∃ (w:World) (tape:Tape) (i:Input),w.os=os/\(w.forCall tape i).Shaped C.prog/\i.vars=[]/\Input.okWide C.prog (w.forCall tape i) .any w.heap.size f i /\
    ((s.pre enc C.prog fn conds apart (w.forCall tape i).memory i.args/\X (w.forCall tape i).memory i.args)/\sizedMet enc C.prog fn (OpenSpec.ofChange s) apart (w.forCall tape i).memory i.args)/\a.holds C.prog (lone (Frame.enter C.prog f i.args .normal) [] (w.forCall tape i)))
  (contract:∀ (W:World) (base:Nat) (args:Array Value) (ds gs:List (DataW H)) (before:List MemPlace),
    (∀ (j:Nat) t v,fn.params[j]? = some t->args[j]? = some v->Value.okWide C.prog W .any base t v)->DataW.Whole enc C.prog fn.params.toList s.vars apart W args.toList ds gs before->X W args->W.ShapedOpen C.prog ->
    Calls C.prog f args W fun e W'=>∃ v,e = .returned v/\s.post enc C.prog fn apart fresh handsOn again W args v W') :
  ReturnsInHanded a C os f .any (fun w args=>(s.pre enc C.prog fn conds apart w args/\X w args)/\sizedMet enc C.prog fn (OpenSpec.ofChange s) apart w args) (s.post enc C.prog fn apart fresh handsOn again):=by
 refine returnsInHanded_of_calls own started noInit witness ?_
 intro w tape i _ hsh _ hok hpre _
 obtain ⟨_,_,_,fn',hfn',_,_,_,_,hval⟩:=hok
 obtain rfl:fn'=fn:=Option.some.inj (hfn'.symm.trans hfn)
 obtain ⟨⟨⟨ds,gs,before,hw,_⟩,hx⟩,_⟩:=hpre
 refine (contract (w.forCall tape i) w.heap.size i.args ds gs before hval (DataW.Whole.of_heap (w':=w.forCall tape i) (by rfl) hw) (hX _ _ _ (by rfl) hx) hsh).mono fun e W' ⟨v,he,hp⟩=>?_
 subst he
 exact ChangeSpec.post_blind hp
theorem frameTells.own:ownKnob Tryz.prog.godebug=none:=by kernel_rfl
theorem frameTells.laidOut:laidOutB Tryz.prog=true:=by kernel_rfl
set_option maxRecDepth 100000 in
theorem frameTells.lifted (os:Os) (started:os.Started) (H:Type) (enc:TypeId×Value->H) :
  ReturnsInHanded {} Tryz.checked os 3 .any (fun w args=>(Rows.frameTellsSpec.pre enc Tryz.prog Tryz.f3 [] false w args/\laidMetH Tryz.prog Rows.frameTellsRow.laid w)/\sizedMet enc Tryz.prog Tryz.f3 (OpenSpec.ofChange Rows.frameTellsSpec) false w args)
   (Rows.frameTellsSpec.post enc Tryz.prog Tryz.f3 false true false false):=by
 refine handed_and_shaped (C:=Tryz.checked) (X:=fun w _=>laidMetH Tryz.prog Rows.frameTellsRow.laid w) (fun _ _ _ hh h=>h.of_heap hh) frameTells.own started (by kernel_rfl) Tryz.func3
  (ChangeSpec.witness_shaped (enc:=enc) (C:=Tryz.checked) (os:=os) (X:=fun w _=>laidMetH Tryz.prog Rows.frameTellsRow.laid w) false (World.laidAll Tryz.prog os Rows.frameTellsRow.laid) #[.agg #[.int .i64 0, .int .i64 0, .int .i64 0, .int .i64 0, .slice none 0 0, .slice none 0 0, .slice none 0 0, .slice none 0 0, .slice none 0 0, .slice none 0 0, .int .i64 0, .string .empty, .slice none 0 0, .int .i64 0, .bool false], .slice none 0 0, .int .u8 0, .int .u8 0, .slice none 0 0, .int .u8 0, .int .i64 0, .string .empty] 8 (World.laidAll_os _ _ _)
    (World.shaped_of_ZipB (by kernel_rfl) (by kernel_rfl)) (by kernel_rfl) (by kernel_rfl) (by kernel_rfl)
    (by rw [MakeChecks.laidMetH_plain _ _ _ (by kernel_rfl)];exact laidMet_laidAll _ (by kernel_rfl) (by kernel_rfl))) ?_
 intro W base args ds gs before hval0 hW hL hsh
 have hval:∀ (j:Nat) t v,Tryz.f3.params[j]? = some t->args[j]? = some v->Value.okWide Tryz.prog W .any base t v:=hval0
 have hW':=hW
 obtain ⟨p,q,hA0,hV,rfl,hfz,hnd⟩:=hW
 have hA:DataW.TrodAll enc Tryz.prog W 0 (fun _=>true) true Tryz.f3.params.toList args.toList ds p:=hA0
 rw [Tryz.params3] at hA hval
 obtain ⟨v0,vs0,d0,ds0,p0,q0,hargs,rfl,rfl,h0,r0⟩:=trodAll_cons hA
 obtain ⟨v1,vs1,d1,ds1,p1,q1,rfl,rfl,rfl,h1,r1⟩:=trodAll_cons r0
 obtain ⟨v2,vs2,d2,ds2,p2,q2,rfl,rfl,rfl,h2,r2⟩:=trodAll_cons r1
 obtain ⟨v3,vs3,d3,ds3,p3,q3,rfl,rfl,rfl,h3,r3⟩:=trodAll_cons r2
 obtain ⟨v4,vs4,d4,ds4,p4,q4,rfl,rfl,rfl,h4,r4⟩:=trodAll_cons r3
 obtain ⟨v5,vs5,d5,ds5,p5,q5,rfl,rfl,rfl,h5,r5⟩:=trodAll_cons r4
 obtain ⟨v6,vs6,d6,ds6,p6,q6,rfl,rfl,rfl,h6,r6⟩:=trodAll_cons r5
 obtain ⟨v7,vs7,d7,ds7,p7,q7,rfl,rfl,rfl,h7,r7⟩:=trodAll_cons r6
 obtain ⟨rfl,rfl,rfl⟩:=trodAll_nil r7
 obtain rfl:args = #[v0,v1,v2,v3,v4,v5,v6,v7]:=by cases args;simp_all
 obtain ⟨rfl,rfl⟩:=trodVars_none hV
 have k0:=h0
 have lt0:∀ x∈p0,x.block<W.heap.size:=by obtain ⟨m,hm⟩:=k0;exact DataW.trod_lt m _ _ _ hm
 have k1:=h1
 have lt1:∀ x∈p1,x.block<W.heap.size:=by obtain ⟨m,hm⟩:=k1;exact DataW.trod_lt m _ _ _ hm
 have k2:=h2
 have lt2:∀ x∈p2,x.block<W.heap.size:=by obtain ⟨m,hm⟩:=k2;exact DataW.trod_lt m _ _ _ hm
 have k3:=h3
 have lt3:∀ x∈p3,x.block<W.heap.size:=by obtain ⟨m,hm⟩:=k3;exact DataW.trod_lt m _ _ _ hm
 have k4:=h4
 have lt4:∀ x∈p4,x.block<W.heap.size:=by obtain ⟨m,hm⟩:=k4;exact DataW.trod_lt m _ _ _ hm
 have k5:=h5
 have lt5:∀ x∈p5,x.block<W.heap.size:=by obtain ⟨m,hm⟩:=k5;exact DataW.trod_lt m _ _ _ hm
 have k6:=h6
 have lt6:∀ x∈p6,x.block<W.heap.size:=by obtain ⟨m,hm⟩:=k6;exact DataW.trod_lt m _ _ _ hm
 have k7:=h7
 have lt7:∀ x∈p7,x.block<W.heap.size:=by obtain ⟨m,hm⟩:=k7;exact DataW.trod_lt m _ _ _ hm
 clear hA0 hval0
 refine (frameTells.walk W base (hval 0 33 v0 rfl rfl) h0 (hval 1 34 v1 rfl rfl) h1 (hval 2 5 v2 rfl rfl) h2 (hval 3 5 v3 rfl rfl) h3 (hval 4 29 v4 rfl rfl) h4 (hval 5 5 v5 rfl rfl) h5 (hval 6 3 v6 rfl rfl) h6 (hval 7 9 v7 rfl rfl) h7 hL hsh).mono fun e W' ⟨he,bel⟩=>?_
 subst he
 exact ⟨_,rfl,_,_,_,[],_,[],hW',trodAll_mk1 (shut_bool Tryz.underlying4 _),(trodAll_cons_mk (Below.trod frameTells.laidOut (by kernel_rfl) (of_decide_eq_true (by kernel_rfl)) k0 bel lt0) (trodAll_cons_mk (Below.trod frameTells.laidOut (by kernel_rfl) (of_decide_eq_true (by kernel_rfl)) k1 bel lt1) (trodAll_cons_mk (Below.trod frameTells.laidOut (by kernel_rfl) (of_decide_eq_true (by kernel_rfl)) k2 bel lt2) (trodAll_cons_mk (Below.trod frameTells.laidOut (by kernel_rfl) (of_decide_eq_true (by kernel_rfl)) k3 bel lt3) (trodAll_cons_mk (Below.trod frameTells.laidOut (by kernel_rfl) (of_decide_eq_true (by kernel_rfl)) k4 bel lt4) (trodAll_cons_mk (Below.trod frameTells.laidOut (by kernel_rfl) (of_decide_eq_true (by kernel_rfl)) k5 bel lt5) (trodAll_cons_mk (Below.trod frameTells.laidOut (by kernel_rfl) (of_decide_eq_true (by kernel_rfl)) k6 bel lt6) (trodAll_cons_mk (Below.trod frameTells.laidOut (by kernel_rfl) (of_decide_eq_true (by kernel_rfl)) k7 bel lt7) trodAll_mk0)))))))),rfl,bel.frame _,fun h=>by cases h⟩
theorem and_t {a b:Bool} (h1:a=true) (h2:b=true):(a&&b)=true:=by rw [h1,h2];rfl
set_option maxHeartbeats 40000000 in
theorem frameTells.closed:joinedFacts Tryz.prog 3 Tryz.f3 Rows.frameTellsSpec Rows.frameTellsRow=true:=by
 unfold joinedFacts
 repeat' (with_reducible apply and_t)
 all_goals (as_aux_lemma=>kernel_rfl)
theorem frameTells.over:Rows.frameTellsRow.holds Tryz.pinned (OpenSpec.ofChange Rows.frameTellsSpec) :=
 OpenClaim.holds_of_wide 3 Tryz.f3 rfl rfl rfl rfl rfl rfl rfl ⟨rfl,rfl,rfl,rfl,rfl⟩ rfl rfl rfl rfl rfl (by kernel_rfl) Tryz.func3 frameTells.closed
  (of_decide_eq_true (by kernel_rfl)) (by unfold Func.isWrapper;first | (rw [if_pos (by decide +kernel)];kernel_rfl) | (rw [if_neg (by decide +kernel)];exact ⟨rfl,rfl⟩))
  (fun os started H enc _=>frameTells.lifted os started H enc)
theorem frameTells.plain (f:FuncId) (fn:Func) (hf:Tryz.pinned.checked.prog.funcNamed "hubbub/hubbublaw14.FrameTells" = some f) (hfn:Tryz.pinned.checked.prog.funcs[f]? = some fn) :
  false=Tryz.pinned.checked.prog.looks []/\∀ (j:Nat) t,fn.params[j]? = some t->Tryz.pinned.checked.prog.wantsStandIn t=false:=by
 obtain rfl:f=3:=Option.some.inj ((show Tryz.prog.funcNamed "hubbub/hubbublaw14.FrameTells" = some 3 by kernel_rfl).symm.trans hf) |>.symm
 obtain rfl:fn=Tryz.f3:=(Option.some.inj (Tryz.func3.symm.trans hfn)).symm
 refine ⟨by kernel_rfl,fun j t ht=>?_⟩
 rw [Tryz.params3] at ht
 have hm:t∈[33,34,5,5,29,5,3,9]:=by simpa using Array.mem_of_getElem? ht
 have hall:([33,34,5,5,29,5,3,9].all fun u=>!Tryz.prog.wantsStandIn u)=true:=by kernel_rfl
 exact (show Tryz.prog.wantsStandIn t=false by simpa using List.all_eq_true.1 hall t hm)
theorem frameTells.proved:Rows.FrameTellsCardSaid :=
 Claim7.holds_tied_plain_at .later [] _ _ _ _ frameTells.over (fun _ h=>by cases h) (by as_aux_lemma=>kernel_rfl) (fun _ h=>by cases h) frameTells_row_tie rfl ⟨rfl,rfl⟩ (by as_aux_lemma=>kernel_rfl) rfl frameTells.plain (by as_aux_lemma=>kernel_rfl)
#print axioms frameTells.proved
end
end Go.Proofs.YtbmbcjmgjdnlnaaGreatDoor
