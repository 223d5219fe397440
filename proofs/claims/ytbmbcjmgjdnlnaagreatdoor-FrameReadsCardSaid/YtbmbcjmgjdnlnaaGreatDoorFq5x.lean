/- Any bytes are read: a table, a frame. -/
import Derived.Test.YtbmbcjmgjdnlnaaGreatDoorFq1x
import Derived.KernelRfl
import Derived.Test.YtbmbcjmgjdnlnaaGreatDoorPtex
import Derived.Test.YtbmbcjmgjdnlnaaGreatDoorPt3x
import Derived.Lib.LaidU8
import Derived.Handed
namespace Go.Proofs.YtbmbcjmgjdnlnaaGreatDoor
open Go.RowKit
set_option linter.unusedSimpArgs false
set_option linter.unusedVariables false
set_option linter.unusedSectionVars false
set_option maxHeartbeats 4000000
set_option maxRecDepth 100000
section
def tS1 (s:RS):RS:=(runL dotR s).2
def tS2 (s:RS):RS:=(runL fenR (tS1 s)).2
def tS3 (s:RS):RS:=(runL routeR (tS2 s)).2
def tabR (s:RS):TTable×RS:=(⟨(runL dotR s).1,(runL fenR (tS1 s)).1,(runL routeR (tS2 s)).1,(runL cellR (tS3 s)).1⟩,(runL cellR (tS3 s)).2)
theorem tabR_len (s:RS):(tS1 s).l.length<=s.l.length/\(tS2 s).l.length<=s.l.length/\(tS3 s).l.length<=s.l.length/\(tabR s).2.l.length<=s.l.length:=by
 have h1:=(runL_len dotR_len s).1
 have h2:=(runL_len fenR_len (tS1 s)).1
 have h3:=(runL_len routeR_len (tS2 s)).1
 have h4:=(runL_len cellR_len (tS3 s)).1
 have e1:(tS1 s).l.length<=s.l.length:=h1
 have e2:(tS2 s).l.length<=(tS1 s).l.length:=h2
 have e3:(tS3 s).l.length<=(tS2 s).l.length:=h3
 have e4:(tabR s).2.l.length<=(tS3 s).l.length:=h4
 omega
attribute [local irreducible] DW SeqD DV DOp DC DVX DVJ numR intR textR dotR takeR cellR fenR routeR runL
theorem sv_tabG_dc {p:Prop} (h:p:=by first | exact sv | exact hl | exact Nat.le_trans q1 hl | exact Nat.le_trans q2 hl | exact Nat.le_trans q3 hl | fail):p:=h
theorem tabG_dc (b:Nat) (s:RS) (F:Own):(s.l.length<=2000000)->DC Tryz.prog 138 [.raw (.pointer (some ⟨b,0,none⟩))] ([.blk b [.sl ((s.l).map u8), .bool (s.k)]]++F) fun d G=>d = .agg [.sl ((tabR s).1.seen.map encDot), .sl ((tabR s).1.fences.map encFence), .sl ((tabR s).1.routes.map encRoute), .sl ((tabR s).1.cells.map encCell)]/\G = .blk b [.sl (((tabR s).2.l).map u8), .bool ((tabR s).2.k)]::F:=by
 intro hA
 have hl:=hA
 refine DC.bodyS (n_:=17) (show Tryz.prog.funcs[138]? = some Tryz.f138 by kernel_rfl) rfl rfl (by rfl) ?_
 simp only [env0,List.cons_append,List.nil_append]
 have kw:=ksIs [0,1,2,3]
 have ow:=ownIs [2,3]
 have rw_:=rsIs [.cell 2 28]
 have hq:=tabR_len s
 obtain ⟨q1,q2,q3,q4⟩:=hq
 refine DW.tail0 3 ?_
 refine DW.tail0 2 ?_
 refine DW.tail0 4 ?_
 refine DW.tail0 10 ?_
 repeat' (first
  | refine g_ ?_
  | ((with_reducible refine And.intro ?_ ?_);(exact sv_tabG_dc))
  | (refine DW.cond (by rfl) ?_ ?_<;>(first | exact i0_ | (refine ic_ ?_;intro hb)))
  | ((with_reducible refine FVg_cases ?_ ?_)<;>(intro hb;rw [hb];revert hb;(first | exact i0_ | (refine i_ ?_;intro hb))))
  | refine r_ ?_
  | refine k_ ?_
  | (refine p_ (listSd_dc _ _ _ _ _ _ _) ?_ (ha:=by exact sv_tabG_dc);rintro d H1 ⟨v1,rfl,rfl⟩<;>refine s_ ?_)
  | (refine p_ (listSf_dc _ _ _ _ _ _ _) ?_ (ha:=by exact sv_tabG_dc);rintro d H1 ⟨v1,rfl,rfl⟩<;>refine s_ ?_)
  | (refine p_ (listSr_dc _ _ _ _ _ _ _) ?_ (ha:=by exact sv_tabG_dc);rintro d H1 ⟨v1,rfl,rfl⟩<;>refine s_ ?_)
  | (refine p_ (listSc_dc _ _ _ _ _ _ _) ?_ (ha:=by exact sv_tabG_dc);rintro d H1 ⟨v1,rfl,rfl⟩<;>refine s_ ?_)
  | refine o_ ?_
  | refine f_ ?_
  | ((fail_if_success (have zz:=b2));with_reducible intro b2)
  | ((fail_if_success (have zz:=b3));with_reducible intro b3)
  | with_reducible intro b)
 all_goals first
 | (simp only [tabR,tS3,tS2,tS1];refine ⟨_,_,?_,⟨rfl,rfl⟩,?_⟩;exact le.agg (by repeat (first | exact Les.nil | refine Les.cons le.rfl_ ?_ | refine Les.cons (le.gs rfl) ?_ | refine Les.cons (le.gs List.map_nil.symm) ?_ | refine Les.cons (le.agg ?_) ?_));(exact sub_);done)
 | (trace_state;fail)
end
section
open Go.RowKit Go.ChangeShapes Go.WideShapes Go.Deep
theorem know_of {w:World} {H:Own} {b:Nat} {cs:List V} (hs:Sim w H) (hno:∀ e∈H,∀ a,¬ e.owns a) (vs:Nat->Value) (h:∀ k,k<cs.length->w.cell? ⟨b,k,none⟩=some (vs k)/\∀ S,R S w (vs k) (cs.getD k .any)) (hbb:b≠4000000007:=by decide) :
  Sim w (.know b cs::H)/\Ext w H w (.know b cs::H) :=
 hs.add (e1:=.know b cs) (hlo:=fun e=>by injection e with e;exact hbb e) rfl rfl rfl (Nat.le_refl _) (fun _ _=>rfl) (fun _ h=>h.elim) fun _=>fun k hk=>by
  obtain ⟨h1,h2⟩:=h k hk
  refine ⟨⟨by rw [h1];rfl,fun e he ha=>?_⟩,?_⟩
  · rcases List.mem_cons.1 he with rfl | he
    · exact ha.elim
    · exact hno e he _ ha
  · unfold cellAt;rw [h1];exact h2 _
theorem acc_at:∀ i,i<16->accC.getD (2 * i) .any = .int .u8 (Go.Lib.accLo i)/\accC.getD (2 * i+1) .any = .int .u8 (Go.Lib.accHi i)
 | 0,_=>⟨rfl,rfl⟩ | 1,_=>⟨rfl,rfl⟩ | 2,_=>⟨rfl,rfl⟩ | 3,_=>⟨rfl,rfl⟩ | 4,_=>⟨rfl,rfl⟩ | 5,_=>⟨rfl,rfl⟩ | 6,_=>⟨rfl,rfl⟩ | 7,_=>⟨rfl,rfl⟩
 | 8,_=>⟨rfl,rfl⟩ | 9,_=>⟨rfl,rfl⟩ | 10,_=>⟨rfl,rfl⟩ | 11,_=>⟨rfl,rfl⟩ | 12,_=>⟨rfl,rfl⟩ | 13,_=>⟨rfl,rfl⟩ | 14,_=>⟨rfl,rfl⟩ | 15,_=>⟨rfl,rfl⟩
 | n+16,h=>absurd h (by omega)
theorem known_sim {w:World} {m:Int} (ht:Go.Lib.Utf8Tabs 1 2 w) (hm:w.cell? ⟨3,0,none⟩=some (.int .i64 m)) :
  Sim w [knF,knA, .know 3 [.int .i64 m]]/\Ext w [] w [knF,knA, .know 3 [.int .i64 m]]:=by
 have h0:Sim w []:=⟨(fun _ h=>nomatch h),List.Pairwise.nil,List.Pairwise.nil⟩
 obtain ⟨s1,x1⟩:=know_of (b:=3) (cs:=[.int .i64 m]) h0 (fun e he=>nomatch he) (fun _=>.int .i64 m) (fun k hk=>by
  have hk0:k=0:=by simpa using hk
  subst hk0
  exact ⟨hm,fun S=>.int _ _⟩)
 obtain ⟨s2,x2⟩:=know_of (b:=2) (cs:=accC) s1 (fun e he a ha=>by
  rcases List.mem_singleton.1 he with rfl
  exact ha.elim) (fun k=>if k%2=0 then .int .u8 (Go.Lib.accLo (k / 2)) else .int .u8 (Go.Lib.accHi (k / 2))) (fun k hk=>by
  have hk:k<32:=by simpa [acc_len] using hk
  obtain ⟨q1,q2⟩:=ht.2 (k / 2) (by omega)
  obtain ⟨a1,a2⟩:=acc_at (k / 2) (by omega)
  by_cases he:k%2=0
  · have e:2 * (k / 2)=k:=by omega
    rw [e] at q1 a1
    refine ⟨by rw [if_pos he];exact q1,fun S=>?_⟩
    rw [if_pos he,a1];exact .int _ _
  · have e:2 * (k / 2)+1=k:=by omega
    rw [e] at q2 a2
    refine ⟨by rw [if_neg he];exact q2,fun S=>?_⟩
    rw [if_neg he,a2];exact .int _ _)
 obtain ⟨s3,x3⟩:=know_of (b:=1) (cs:=firstC) s2 (fun e he a ha=>by
  rcases List.mem_cons.1 he with rfl | he
  · exact ha.elim
  · rcases List.mem_singleton.1 he with rfl
    exact ha.elim) (fun k=>.int .u8 (Go.Lib.firstT k)) (fun k hk=>by
  have hk:k<256:=by rw [first_len] at hk;exact hk
  refine ⟨ht.1 k hk,fun S=>?_⟩
  have e:firstC.getD k .any = .int .u8 (Go.Lib.firstT k):=by
   unfold firstC
   rw [List.getD_eq_getElem?_getD,List.getElem?_map,List.getElem?_range hk];rfl
  rw [e];exact .int _ _)
 exact ⟨s3,(x1.trans x2).trans x3⟩
theorem DC.lawK {P:Program} {f:FuncId} {args:List V} {K0:Own} {xs:Array Value} {w:World} (h:DC P f args K0 fun d H'=>d = .bool true/\H'=K0) (hK:Sim w K0/\Ext w [] w K0) (hn:xs.size=args.length) (hr:∀ k,k<args.length->R (stable w []) w (xs.getD k undef) (args.getD k .any)) :
  Calls P f xs w fun e w'=>e = .returned (.bool true)/\Below w.heap.size w w' :=
 (h.2 xs w hK.1 hn fun k hk=>hK.2.rel (hr k hk)).mono fun e w' ⟨v,d,H',he,s,x,r,hd,hH⟩=>by
   subst hd
   subst hH
   cases r
   exact ⟨he,(hK.2.trans x).below⟩
end
end Go.Proofs.YtbmbcjmgjdnlnaaGreatDoor
