/- Which frames may be, their bytes, and that they come back: the law. -/
import Derived.Test.YtbmbcjmgjdnlnaaGreatDoorFh1x
import Derived.KernelRfl
namespace Go.Proofs.YtbmbcjmgjdnlnaaGreatDoor
open Go.RowKit
set_option linter.unusedSimpArgs false
set_option linter.unusedVariables false
set_option linter.unusedSectionVars false
set_option maxHeartbeats 4000000
set_option maxRecDepth 100000
section
theorem raw_small {raw:TFrame} (hi:InF raw) (hk:i64 raw.kind) (h:(raw.sums.length<=20/\raw.seen.length<=20/\raw.topic.length<=60/\raw.payload.length<=60)/\(raw.tab.seen.length<=20/\raw.tab.fences.length<=20/\raw.tab.routes.length<=20/\raw.tab.cells.length<=20)/\(∀ j,j<raw.tab.routes.length->(raw.tab.routes.getD j default).filter.length<=60)/\(∀ j,j<raw.tab.cells.length->(raw.tab.cells.getD j default).topic.length<=60/\(raw.tab.cells.getD j default).payload.length<=60)):SmallF 6 raw:=by
 obtain ⟨⟨h1,h2,h3,h4⟩,⟨t1,t2,t3,t4⟩,h5,h6⟩:=h
 have hr:∀ r∈raw.tab.routes,r.filter.length<=60:=fun r hr=>by obtain ⟨k,hk,rfl⟩:=mem_getD hr;exact h5 k hk
 have e2:(flatBy routeBy raw.tab.routes).length<=92 * raw.tab.routes.length:=flatBy_le fun x hx=>by rw [routeBy_len];have:=hr x hx;omega
 exact ⟨hi,by omega,by omega,by omega,by omega,by omega,by omega,hr,(fun c hc=>by obtain ⟨k,hk,rfl⟩:=mem_getD hc;exact h6 k hk),by omega,h3,by omega,hk⟩
theorem bent1_dc (f:TFrame) (k v:Int) (z:Str) (F:Own):(SmallF 0 f/\(0<=k/\k<=255)/\i64 v/\z.length<=60)->DC Tryz.prog 15 [.agg [.int .i64 f.kind, .int .i64 f.fr, .int .i64 f.ep, .int .i64 f.at_, .sl (f.sums.map encU), .sl (f.seen.map encDot), .sl (f.tab.seen.map encDot), .sl (f.tab.fences.map encFence), .sl (f.tab.routes.map encRoute), .sl (f.tab.cells.map encCell), .int .i64 f.seq, .str f.topic, .sl (f.payload.map u8), .int .i64 f.qos, .bool f.retain], .int .u8 k, .int .i64 (v), .str z] (([]:Own)++F) fun d G=>∃ g:TFrame,SmallF 1 g/\d = .agg [.int .i64 g.kind, .int .i64 g.fr, .int .i64 g.ep, .int .i64 g.at_, .sl (g.sums.map encU), .sl (g.seen.map encDot), .sl (g.tab.seen.map encDot), .sl (g.tab.fences.map encFence), .sl (g.tab.routes.map encRoute), .sl (g.tab.cells.map encCell), .int .i64 g.seq, .str g.topic, .sl (g.payload.map u8), .int .i64 g.qos, .bool g.retain]/\G=[]++F:=fun h=>bent_dc 0 f k v z F ⟨⟨h.1,by decide⟩,h.2.1,h.2.2.1,h.2.2.2⟩
theorem bent2_dc (f:TFrame) (k v:Int) (z:Str) (F:Own):(SmallF 0 f/\(0<=k/\k<=255)/\z.length<=60)->DC Tryz.prog 15 [.agg [.int .i64 f.kind, .int .i64 f.fr, .int .i64 f.ep, .int .i64 f.at_, .sl (f.sums.map encU), .sl (f.seen.map encDot), .sl (f.tab.seen.map encDot), .sl (f.tab.fences.map encFence), .sl (f.tab.routes.map encRoute), .sl (f.tab.cells.map encCell), .int .i64 f.seq, .str f.topic, .sl (f.payload.map u8), .int .i64 f.qos, .bool f.retain], .int .u8 k, .int .i64 (IntKind.i64.wrap v), .str z] (([]:Own)++F) fun d G=>∃ g:TFrame,SmallF 1 g/\d = .agg [.int .i64 g.kind, .int .i64 g.fr, .int .i64 g.ep, .int .i64 g.at_, .sl (g.sums.map encU), .sl (g.seen.map encDot), .sl (g.tab.seen.map encDot), .sl (g.tab.fences.map encFence), .sl (g.tab.routes.map encRoute), .sl (g.tab.cells.map encCell), .int .i64 g.seq, .str g.topic, .sl (g.payload.map u8), .int .i64 g.qos, .bool g.retain]/\G=[]++F:=fun h=>bent_dc 0 f k (IntKind.i64.wrap v) z F ⟨⟨h.1,by decide⟩,h.2.1,wrap_in _,h.2.2⟩
theorem bent3_dc (f:TFrame) (k v:Int) (F:Own):(SmallF 0 f/\(0<=k/\k<=255)/\i64 v)->DC Tryz.prog 15 [.agg [.int .i64 f.kind, .int .i64 f.fr, .int .i64 f.ep, .int .i64 f.at_, .sl (f.sums.map encU), .sl (f.seen.map encDot), .sl (f.tab.seen.map encDot), .sl (f.tab.fences.map encFence), .sl (f.tab.routes.map encRoute), .sl (f.tab.cells.map encCell), .int .i64 f.seq, .str f.topic, .sl (f.payload.map u8), .int .i64 f.qos, .bool f.retain], .int .u8 k, .int .i64 (v), .str [97]] (([]:Own)++F) fun d G=>∃ g:TFrame,SmallF 1 g/\d = .agg [.int .i64 g.kind, .int .i64 g.fr, .int .i64 g.ep, .int .i64 g.at_, .sl (g.sums.map encU), .sl (g.seen.map encDot), .sl (g.tab.seen.map encDot), .sl (g.tab.fences.map encFence), .sl (g.tab.routes.map encRoute), .sl (g.tab.cells.map encCell), .int .i64 g.seq, .str g.topic, .sl (g.payload.map u8), .int .i64 g.qos, .bool g.retain]/\G=[]++F:=fun h=>bent_dc 0 f k v [97] F ⟨⟨h.1,by decide⟩,h.2.1,h.2.2,by decide⟩
theorem bent4_dc (f:TFrame) (k v:Int) (F:Own):(SmallF 1 f/\(0<=k/\k<=255)/\i64 v)->DC Tryz.prog 15 [.agg [.int .i64 f.kind, .int .i64 f.fr, .int .i64 f.ep, .int .i64 f.at_, .sl (f.sums.map encU), .sl (f.seen.map encDot), .sl (f.tab.seen.map encDot), .sl (f.tab.fences.map encFence), .sl (f.tab.routes.map encRoute), .sl (f.tab.cells.map encCell), .int .i64 f.seq, .str f.topic, .sl (f.payload.map u8), .int .i64 f.qos, .bool f.retain], .int .u8 k, .int .i64 (v), .str [98]] (([]:Own)++F) fun d G=>∃ g:TFrame,SmallF 2 g/\d = .agg [.int .i64 g.kind, .int .i64 g.fr, .int .i64 g.ep, .int .i64 g.at_, .sl (g.sums.map encU), .sl (g.seen.map encDot), .sl (g.tab.seen.map encDot), .sl (g.tab.fences.map encFence), .sl (g.tab.routes.map encRoute), .sl (g.tab.cells.map encCell), .int .i64 g.seq, .str g.topic, .sl (g.payload.map u8), .int .i64 g.qos, .bool g.retain]/\G=[]++F:=fun h=>bent_dc 1 f k v [98] F ⟨⟨h.1,by decide⟩,h.2.1,h.2.2,by decide⟩
attribute [local irreducible] DW SeqD DV DOp DC DVX DVJ fs5 frameB fullBy
theorem sv_frameTells_dc {p:Prop} (h:p:=by first | exact sv | exact ⟨hn20,deeds_ok hl hx30,hk,ha,by omega⟩ | exact ⟨hf,⟨by omega,by omega⟩,hv,by omega⟩ | exact ⟨hf,⟨by omega,by omega⟩,by omega⟩ | exact ⟨hf,⟨by omega,by omega⟩,wrap_in _⟩ | exact ⟨hg3,⟨by omega,by omega⟩,wrap_in _⟩ | exact ⟨(hs.light (by decide)).l,hB⟩ | exact ⟨hs.light (by decide),hB⟩ | exact ⟨hs,by decide,hB⟩ | exact hs.light (by decide) | fail):p:=h
section
attribute [local push_cast 2000] encF byteOf_map isU8_map
theorem frameTells_dc (raw:TFrame) (l:List TDeed) (k a:Int) (x:List UInt8) (w_ v:Int) (z:Str) (m0:Int) (F:Own):((InF raw/\i64 raw.kind)/\(∀ d∈l,deedR d)/\(0<=k/\k<=255)/\(0<=a/\a<=255)/\(0<=w_/\w_<=255)/\i64 v)->DC Tryz.prog 3 [.agg [.int .i64 raw.kind, .int .i64 raw.fr, .int .i64 raw.ep, .int .i64 raw.at_, .sl (raw.sums.map encU), .sl (raw.seen.map encDot), .sl (raw.tab.seen.map encDot), .sl (raw.tab.fences.map encFence), .sl (raw.tab.routes.map encRoute), .sl (raw.tab.cells.map encCell), .int .i64 raw.seq, .str raw.topic, .sl (raw.payload.map u8), .int .i64 raw.qos, .bool raw.retain], .sl (l.map encDeed), .int .u8 k, .int .u8 a, .sl (x.map u8), .int .u8 w_, .int .i64 v, .str z] ([knF,knA,knM m0]++F) fun d G=>d = .bool true/\G=[knF,knA,knM m0]++F:=by
 intro hA
 obtain ⟨⟨hri,hrk⟩,hl,hk,ha,hw,hv⟩:=hA
 refine DC.bodyS (n_:=123) (show Tryz.prog.funcs[3]? = some Tryz.f3 by kernel_rfl) rfl rfl (by rfl) ?_
 simp only [env0,List.cons_append,List.nil_append]
 have kw:=ksIs [0,1,2,3,4,5,6,7,8,16,17,19,20,21,22,23,24,25,27,45,74,75,76,77,106,108,121]
 have ow:=ownIs []
 have dw6:=drIs 6 [6,12,17,22] [2]
 have dw11:=drIs 11 [] [11,12,13,14]
 have hw0:=Int.tdiv_nonneg hw.1 (show (0:Int)<=12 by decide)
 have hw1:w_.tdiv 12<=255:=by rw [Int.tdiv_eq_ediv_of_nonneg hw.1];omega
 repeat' (first
  | ((with_reducible apply DW.frzB 6 17);(focus (exact rfl));(repeat (with_reducible first | refine Out.here ?_ | refine Out.next ?_));simp only [put_cons,put_nil,Nat.reduceEqDiff,↓reduceIte,if_true,if_false,reduceCtorEq])
  | ((with_reducible apply DW.frzB 9 19);(focus (exact rfl));(repeat (with_reducible first | refine Out.here ?_ | refine Out.next ?_));simp only [put_cons,put_nil,Nat.reduceEqDiff,↓reduceIte,if_true,if_false,reduceCtorEq])
  | ((with_reducible apply DW.frzR 11);(repeat (with_reducible first | refine OnA.here ?_ | refine OnA.next ?_));refine ⟨(cells_u8 _).symm,by decide,(by intro y hy;obtain ⟨x,_,rfl⟩:=List.mem_map.1 hy;rfl),?_,?_⟩;(repeat (first | exact CvE.nil | apply CvE.cons (Cv.hit _) | apply CvE.cons (Cv.rfl _))))
  | ((with_reducible refine DW.loopB 0 (X:=Nat) (fun x=>x<=5) (fun x=>[(74, .sl ((fs5 raw f g1 g2 g4).map encF)),(75, .int .i64 5),(76, .int .i64 x)]) (fun x=>[knF,knA,knM m0]) (fun x=>5 - x) (0) ?_ ?_ ?_);exact (Nat.zero_le _);(simp [Sub,get,keepL,fs5,encF]<;>fail);(try simp only [List.cons_append,List.nil_append]);refine pl_ ?_;intro i hi;(try simp only [List.cons_append,List.nil_append]);(try simp only at hi);have hfl:=fs5_l raw f g1 g2 g4;(by_cases hi5:i<5);(all_goals (try (have hs:=fs5_at (raw_small hri hrk hlf) (hf.mono (by decide)) (hg1.mono (by decide)) (hg2.mono (by decide)) (hg4.mono (by decide)) hi5;have hln:=hs.len (by decide);cases hB:frameB ((fs5 raw f g1 g2 g4).getD i default)))))
  | refine g_ ?_
  | ((with_reducible refine And.intro ?_ ?_);(exact sv_frameTells_dc))
  | (refine DW.cond (by rfl) ?_ ?_<;>(first | exact i0_ | (refine ic_ ?_;intro hb)))
  | ((with_reducible first | refine FVg_cases ?_ ?_ | refine FDg_cases ?_ ?_)<;>(intro hb;rw [hb];revert hb;(first | exact i0_ | (refine i_ ?_;intro hb))))
  | refine r_ ?_
  | refine d_ ?_
  | refine k_ ?_
  | ((refine dm_ ?_);(first | ((first | refine v_ (known14_dc _) ?_ (ha:=by exact sv_frameTells_dc) | refine v_ (preadB_dc _ _ _ _) ?_ (ha:=by exact sv_frameTells_dc) | refine v_ (helpF_dc _ _) ?_ (ha:=by exact sv_frameTells_dc))) | (refine v_ (pfput0_dc _ _ _) ?_ (ha:=by exact sv_frameTells_dc)) | (refine v_ (rfput0_dc _ _) ?_ (ha:=by exact sv_frameTells_dc)) | (refine v_ (pfrightY_dc _ _ _) ?_ (ha:=by exact sv_frameTells_dc)) | (refine v_ (pfrightN_dc _ _ _) ?_ (ha:=by exact sv_frameTells_dc)) | (refine v_ (rfrightY_dc _ _) ?_ (ha:=by exact sv_frameTells_dc)) | (refine v_ (rfrightN_dc _ _) ?_ (ha:=by exact sv_frameTells_dc))))
  | refine vo_ ?_
  | ((first | refine q_ (known14_dc _) ?_ (ha:=by exact sv_frameTells_dc) | refine q_ (preadB_dc _ _ _ _) ?_ (ha:=by exact sv_frameTells_dc) | refine q_ (helpF_dc _ _) ?_ (ha:=by exact sv_frameTells_dc)))
  | (refine p_ (lightF_dc _ _) ?_ (ha:=by exact sv_frameTells_dc);rintro d H1 (⟨rfl,hlf,rfl⟩ | ⟨rfl,rfl⟩)<;>refine s_ ?_)
  | (refine p_ (few_dc _ _) ?_ (ha:=by exact sv_frameTells_dc);rintro d H1 (⟨rfl,⟨hn20,hx30⟩,rfl⟩ | ⟨rfl,rfl⟩)<;>refine s_ ?_)
  | (refine p_ (someS_dc _ _ _ _ _) ?_ (ha:=by exact sv_frameTells_dc);rintro d H1 ⟨f,hf,rfl,rfl⟩<;>refine s_ ?_)
  | (refine p_ (bent4_dc _ _ _ _) ?_ (ha:=by exact sv_frameTells_dc);rintro d H1 ⟨g4,hg4,rfl,rfl⟩<;>refine s_ ?_)
  | (refine p_ (bent3_dc _ _ _ _) ?_ (ha:=by exact sv_frameTells_dc);rintro d H1 ⟨g3,hg3,rfl,rfl⟩<;>refine s_ ?_)
  | (refine p_ (bent2_dc _ _ _ _ _) ?_ (ha:=by exact sv_frameTells_dc);rintro d H1 ⟨g2,hg2,rfl,rfl⟩<;>refine s_ ?_)
  | (refine p_ (bent1_dc _ _ _ _ _) ?_ (ha:=by exact sv_frameTells_dc);rintro d H1 ⟨g1,hg1,rfl,rfl⟩<;>refine s_ ?_)
  | (refine q_ (pfput0_dc _ _ _) ?_ (ha:=by exact sv_frameTells_dc))
  | (refine p_ (pfput_dc _ _ _) ?_ (ha:=by exact sv_frameTells_dc);rintro d H1 (⟨hle,v1,rfl,rfl⟩ | ⟨hgt,rfl,rfl⟩)<;>refine s_ ?_)
  | (refine q_ (rfput0_dc _ _) ?_ (ha:=by exact sv_frameTells_dc))
  | (refine p_ (rfput_dc _ _) ?_ (ha:=by exact sv_frameTells_dc);rintro d H1 (⟨hle2,v2,m2,rfl,hm2,rfl⟩ | ⟨hgt2,rfl,rfl⟩)<;>refine s_ ?_)
  | (refine q_ (pfrightY_dc _ _ _) ?_ (ha:=by exact sv_frameTells_dc))
  | (refine q_ (pfrightN_dc _ _ _) ?_ (ha:=by exact sv_frameTells_dc))
  | (refine q_ (rfrightY_dc _ _) ?_ (ha:=by exact sv_frameTells_dc))
  | (refine q_ (rfrightN_dc _ _) ?_ (ha:=by exact sv_frameTells_dc))
  | refine o_ ?_
  | refine f_ ?_
  | refine vm_ ?_
  | with_reducible intro b)
 all_goals first
 | (refine ⟨i+1,?_,?_,?_,?_⟩;(((try simp only);omega));(((try simp only);omega));(simp [Sub,get]<;>(fail));(try dsimp only);(exact sub_);done)
 | ((first | exact fin_ | refine finq_ ?_);done)
 | (exfalso;omega)
 | (trace_state;fail)
end
end
end Go.Proofs.YtbmbcjmgjdnlnaaGreatDoor
