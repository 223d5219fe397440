/- A frame laid down by the document. -/
import Derived.Test.YtbmbcjmgjdnlnaaGreatDoorFt4x
import Derived.Test.YtbmbcjmgjdnlnaaGreatDoorFrx
import Derived.KernelRfl
import Derived.Test.YtbmbcjmgjdnlnaaGreatDoorElx
import Derived.Test.YtbmbcjmgjdnlnaaGreatDoorFs1x
namespace Go.Proofs.YtbmbcjmgjdnlnaaGreatDoor
open Go.RowKit
set_option linter.unusedSimpArgs false
set_option linter.unusedVariables false
set_option linter.unusedSectionVars false
set_option maxHeartbeats 4000000
set_option maxRecDepth 100000
section
theorem rfrightY_dc (f:TFrame) (F:Own):(LightD f/\frameB f=true)->DC Tryz.prog 19 [.agg [.int .i64 f.kind, .int .i64 f.fr, .int .i64 f.ep, .int .i64 f.at_, .sl (f.sums.map encU), .sl (f.seen.map encDot), .sl (f.tab.seen.map encDot), .sl (f.tab.fences.map encFence), .sl (f.tab.routes.map encRoute), .sl (f.tab.cells.map encCell), .int .i64 f.seq, .str f.topic, .sl (f.payload.map u8), .int .i64 f.qos, .bool f.retain]] (([]:Own)++F) fun d G=>d = .bool true/\G=[]++F:=fun h=>by
 have:=rfright_dc f F h.1;rwa [h.2] at this
theorem rfrightN_dc (f:TFrame) (F:Own):(LightD f/\frameB f=false)->DC Tryz.prog 19 [.agg [.int .i64 f.kind, .int .i64 f.fr, .int .i64 f.ep, .int .i64 f.at_, .sl (f.sums.map encU), .sl (f.seen.map encDot), .sl (f.tab.seen.map encDot), .sl (f.tab.fences.map encFence), .sl (f.tab.routes.map encRoute), .sl (f.tab.cells.map encCell), .int .i64 f.seq, .str f.topic, .sl (f.payload.map u8), .int .i64 f.qos, .bool f.retain]] (([]:Own)++F) fun d G=>d = .bool false/\G=[]++F:=fun h=>by
 have:=rfright_dc f F h.1;rwa [h.2] at this
theorem numHK_dc (v:Value) (k x y z:Int) (F:Own):(0<=k/\k<=255)->DC Tryz.prog 56 [.ar v 4, .sl [.int .i64 x, .int .i64 y, .int .i64 z]] ([.arr 1 v [.int .u8 72, .int .u8 66, .int .u8 49, .int .u8 k]]++F) fun d G=>∃ v1,d = .ar v1 28/\G = .arr 1 v1 ((hdP k x y z).map u8)::F:=fun h=>by
 have:=num3_dc v 4 [72,66,49,byteI k] x y z F ⟨rfl,by simp⟩
 have e:V.int .u8 k=u8 (byteI k):=by rw [u8_byteI,wrap_u8 k h.1 h.2]
 rw [e];exact this
attribute [local irreducible] DW SeqD DV DOp DC DVX DVJ nameB tabB rightB frameB numsL textBy flatBy dotsBy tableBy hdP leK
theorem sv_rfput0_dc {p:Prop} (h:p:=by first | exact sv | exact ⟨hf,hB⟩ | fail):p:=h
theorem rfput0_dc (f:TFrame) (F:Own):(LightD f/\frameB f=false)->DC Tryz.prog 17 [.agg [.int .i64 f.kind, .int .i64 f.fr, .int .i64 f.ep, .int .i64 f.at_, .sl (f.sums.map encU), .sl (f.seen.map encDot), .sl (f.tab.seen.map encDot), .sl (f.tab.fences.map encFence), .sl (f.tab.routes.map encRoute), .sl (f.tab.cells.map encCell), .int .i64 f.seq, .str f.topic, .sl (f.payload.map u8), .int .i64 f.qos, .bool f.retain]] (([]:Own)++F) fun d G=>d = .tup [.gs (.slice none 0 0) [], .int .i64 26]/\G=[]++F:=by
 intro hA
 obtain ⟨hf,hB⟩:=hA
 refine DC.bodyS (n_:=86) (show Tryz.prog.funcs[17]? = some Tryz.f17 by kernel_rfl) rfl rfl (by rfl) ?_
 simp only [env0,List.cons_append,List.nil_append]
 have kw:=ksIs [0,1,2,3,4,5,8,25,45,57,71,84]
 have ow:=ownIs []
 have dw3:=drIs 3 [6,14] [3]
 have dw5:=drIs 5 [] [2,4,7,8,11,13,16,18]
 repeat' (first
  | refine g_ ?_
  | ((with_reducible refine And.intro ?_ ?_);(exact sv_rfput0_dc))
  | (refine DW.cond (by rfl) ?_ ?_<;>(first | exact i0_ | (refine ic_ ?_;intro hb)))
  | ((with_reducible first | refine FVg_cases ?_ ?_ | refine FDg_cases ?_ ?_)<;>(intro hb;rw [hb];revert hb;(first | exact i0_ | (refine i_ ?_;intro hb))))
  | refine r_ ?_
  | refine d_ ?_
  | refine k_ ?_
  | ((refine dm_ ?_);(first | (refine v_ (rfrightN_dc _ _) ?_ (ha:=by exact sv_rfput0_dc))))
  | refine vo_ ?_
  | (refine q_ (rfrightN_dc _ _) ?_ (ha:=by exact sv_rfput0_dc))
  | refine o_ ?_
  | refine f_ ?_
  | refine vm_ ?_
  | with_reducible intro b)
 (first | exact fin_ | refine finq_ ?_)
 all_goals rfl
theorem sv_rfput_dc {p:Prop} (h:p:=by first | exact sv | exact ⟨hf,hB⟩ | (simp [u8,V.one,V.n];omega) | (simp [u8,V.one,V.n]<;>fail) | (simp only [List.length_append,leK_len,numsL_len,hdP_len];omega) | (simp only [true_and,and_true,List.length_append,leK_len,numsL_len,textBy_len,dotsBy_len,hdP_len,List.length_map,List.length_cons,List.length_nil]<;>omega) | exact ⟨q9.symm,by rw [q9];decide,hf.l.tab.wide⟩ | fail):p:=h
section
attribute [local push_cast 2000] cells_cons cells_nil bytes_are bytes_back encU isU8_map byteOf_map
theorem rfput_dc (f:TFrame) (F:Own):(LightD f/\frameB f=true)->DC Tryz.prog 17 [.agg [.int .i64 f.kind, .int .i64 f.fr, .int .i64 f.ep, .int .i64 f.at_, .sl (f.sums.map encU), .sl (f.seen.map encDot), .sl (f.tab.seen.map encDot), .sl (f.tab.fences.map encFence), .sl (f.tab.routes.map encRoute), .sl (f.tab.cells.map encCell), .int .i64 f.seq, .str f.topic, .sl (f.payload.map u8), .int .i64 f.qos, .bool f.retain]] (([]:Own)++F) fun d G=>((fullBy f).length<=1048576/\∃ v1 m1,d = .tup [.ar v1 m1, .int .i64 0]/\m1=(fullBy f).length/\G = .arr 1 v1 ((fullBy f).map u8)::F)\/(1048576<(fullBy f).length/\d = .tup [.gs (.slice none 0 0) [], .int .i64 22]/\G=[]++F):=by
 intro hA
 obtain ⟨hf,hB⟩:=hA
 refine DC.bodyS (n_:=86) (show Tryz.prog.funcs[17]? = some Tryz.f17 by kernel_rfl) rfl rfl (by rfl) ?_
 simp only [env0,flatBy_nil,List.take_zero,List.append_nil,List.cons_append,List.nil_append]
 have kw:=ksIs [0,1,2,3,4,5,8,25,45,57,71,84]
 have ow:=ownIs [9,10,79]
 have dw3:=drIs 3 [0,1,6,14] []
 have dw5:=drIs 5 [4,8,13,18] [2]
 have hk3:=frameB_kind hB;have q1:=hf.l.sums;have q2:=hf.l.seen;have q3:=hf.l.tab.s;have q4:=hf.l.tab.f;have q5:=hf.l.tab.r;have q6:=hf.l.tab.c;have q7:=hf.l.top;have q8:=hf.l.msg;have q9:=hdP_len f.kind f.fr f.ep f.at_;have q10:=tableP_len hf.l;have q11:(tableBy f.tab).length<=700000000000:=q10
 repeat' (first
  | ((with_reducible refine DW.loopB 1 (X:=Nat×Value×Nat×Str) (fun x=>x.1<=f.sums.length/\x.2.2.2=hdP f.kind f.fr f.ep f.at_++numsL [(f.sums.length:Int)]++flatBy sumBy (f.sums.take x.1)/\x.2.2.1=36+8 * x.1/\x.2.2.1=x.2.2.2.length) (fun x=>[(1, .sp [.int .i64 f.kind, .int .i64 f.fr, .int .i64 f.ep, .int .i64 f.at_, .sl (f.sums.map encU), .sl (f.seen.map encDot), .sl (f.tab.seen.map encDot), .sl (f.tab.fences.map encFence), .sl (f.tab.routes.map encRoute), .sl (f.tab.cells.map encCell), .int .i64 f.seq, .str f.topic, .sl (f.payload.map u8), .int .i64 f.qos, .bool f.retain]),(4, .ar x.2.1 x.2.2.1),(5, .int .i64 x.1)]) (fun x=>.arr 1 x.2.1 (x.2.2.2.map u8)::([]:Own)) (fun x=>f.sums.length - x.1) ((0,v1,28+8,hdP f.kind f.fr f.ep f.at_++numsL [(f.sums.length:Int)])) ?_ ?_ ?_);exact (⟨Nat.zero_le _,by simp [flatBy_nil],rfl,by simp only [List.length_append,hdP_len,numsL_len,List.length_cons,List.length_nil]⟩);(simp [Sub,get,keepL]<;>fail);(try simp only [flatBy_nil,List.take_zero,List.append_nil,List.cons_append,List.nil_append]);refine pl_ ?_;intro ⟨k,y,m,ls⟩ ⟨hk2,hs,hm,hm2⟩;(try simp only [flatBy_nil,List.take_zero,List.append_nil,List.cons_append,List.nil_append]);simp only at hk2 hs hm hm2)
  | refine g_ ?_
  | ((with_reducible refine And.intro ?_ ?_);(exact sv_rfput_dc))
  | (refine DW.cond (by rfl) ?_ ?_<;>(first | exact i0_ | (refine ic_ ?_;intro hb)))
  | ((with_reducible first | refine FVg_cases ?_ ?_ | refine FDg_cases ?_ ?_)<;>(intro hb;rw [hb];revert hb;(first | exact i0_ | (refine i_ ?_;intro hb))))
  | refine r_ ?_
  | refine d_ ?_
  | refine k_ ?_
  | ((refine dm_ ?_);(first | (refine v_ (rfrightY_dc _ _) ?_ (ha:=by exact sv_rfput_dc)) | (refine v_ (rfnv_dc _ _) ?_ (ha:=by exact sv_rfput_dc))))
  | refine vo_ ?_
  | ((first | (refine DOp.lista_ [9] rfl rfl ?_) | (refine DOp.makea_ [9] rfl rfl rfl rfl ?_))<;>(refine s_ ?_))
  | (refine q_ (rfrightY_dc _ _) ?_ (ha:=by exact sv_rfput_dc))
  | (refine p_ (numHK_dc _ _ _ _ _ _) ?_ (ha:=by exact sv_rfput_dc);rintro d H1 ⟨v1,rfl,rfl⟩<;>refine s_ ?_)
  | (refine q_ (rfnv_dc _ _) ?_ (ha:=by exact sv_rfput_dc))
  | ((first | refine p_ (num1_dc _ _ _ _ _) ?_ (ha:=by exact sv_rfput_dc) | refine p_ (eight_dc _ _ _ _ _) ?_ (ha:=by exact sv_rfput_dc) | refine p_ (pdots_dc _ _ _ _ _) ?_ (ha:=by exact sv_rfput_dc) | refine p_ (ptext_dc _ _ _ _ _) ?_ (ha:=by exact sv_rfput_dc));rintro d H1 ⟨v1,rfl,rfl⟩<;>refine s_ ?_)
  | (refine p_ (ptableL_dc _ _ _ _ _) ?_ (ha:=by exact sv_rfput_dc);rintro d H1 ⟨v1,m1,rfl,hm1,rfl⟩<;>refine s_ ?_)
  | refine o_ ?_
  | refine f_ ?_
  | refine vm_ ?_
  | with_reducible intro b)
 all_goals first
 | (exfalso;omega)
 | (refine ⟨(k+1,v1,m+8,ls++sumBy (f.sums.getD k default)),⟨?_,?_,?_,?_⟩,?_,?_,?_⟩;(dsimp only;omega);(dsimp only;rw [hs,flatBy_next sumBy (show k<f.sums.length by omega)];simp only [List.append_assoc]);(dsimp only;omega);(dsimp only;simp only [List.length_append,sumP_len];omega);(dsimp only;omega);(simp [Sub,get]<;>fail);(dsimp only;simp only [sumBy,List.append_assoc];(exact sub_));done)
 | (have hkx:k=f.sums.length:=by omega
    subst hkx
    rw [List.take_length] at hs
    have e:ls++dotsBy f.seen=bodyBy f:=by
     rw [<-bodyP (l:=restBy f) rfl,hs,restP_1 (by assumption)];(try simp only [List.append_assoc])
    have e2:=fullP e
    simp only [List.append_assoc] at e2
    have e3:=congrArg List.length e2
    simp only [List.length_append,leK_len,numsL_len,textBy_len,dotsBy_len,hdP_len,List.length_cons,List.length_nil] at e3
    (try rw [e2])
    first
    | (refine ⟨_,_,le.rfl_, .inr ⟨by omega,rfl,rfl⟩,?_⟩;(exact sub_);done)
    | (refine ⟨_,_,le.rfl_, .inl ⟨by omega,_,_,rfl,by omega,rfl⟩,?_⟩;(exact sub_);done))
 | (have e:hdP f.kind f.fr f.ep f.at_++tableBy f.tab=bodyBy f:=by
     rw [<-bodyP (l:=restBy f) rfl,restP_2 (by assumption)];(try simp only [List.append_assoc])
    have e2:=fullP e
    simp only [List.append_assoc] at e2
    have e3:=congrArg List.length e2
    simp only [List.length_append,leK_len,numsL_len,textBy_len,dotsBy_len,hdP_len,List.length_cons,List.length_nil] at e3
    (try rw [e2])
    first
    | (refine ⟨_,_,le.rfl_, .inr ⟨by omega,rfl,rfl⟩,?_⟩;(exact sub_);done)
    | (refine ⟨_,_,le.rfl_, .inl ⟨by omega,_,_,rfl,by omega,rfl⟩,?_⟩;(exact sub_);done))
 | (have e:hdP f.kind f.fr f.ep f.at_++(numsL [f.seq]++(textBy f.topic++(textBy f.payload++numsL [f.qos])))=bodyBy f:=by
     rw [<-bodyP (l:=restBy f) rfl,restP_3 (by omega)];(try simp only [List.append_assoc])
    have e2:=fullP e
    simp only [List.append_assoc] at e2
    have e3:=congrArg List.length e2
    simp only [List.length_append,leK_len,numsL_len,textBy_len,dotsBy_len,hdP_len,List.length_cons,List.length_nil] at e3
    (try rw [e2])
    first
    | (refine ⟨_,_,le.rfl_, .inr ⟨by omega,rfl,rfl⟩,?_⟩;(exact sub_);done)
    | (refine ⟨_,_,le.rfl_, .inl ⟨by omega,_,_,rfl,by omega,rfl⟩,?_⟩;(exact sub_);done))
 | (trace_state;fail)
end
end
section
attribute [local irreducible] numR intR textR dotR takeR textD manyR
abbrev LInts:=List Int
theorem lightD_of {c:UInt8} {s:RS} (h:s.l.length<=65535):LightD (frameD c s).1:=by
 have hl:=frameD_light c s (Nat.le_trans h (by decide))
 obtain ⟨g1,g2,g3,g4,_⟩:=gS_len s
 have ht:Lite 1000000000 (tabD (gS3 s)).1:=by
  obtain ⟨q1,q2,q3,_⟩:=eS_len (gS3 s)
  have hx:=tabD_light (gS3 s) (by omega)
  refine ⟨Nat.le_trans hx.s (by decide),Nat.le_trans hx.f (by decide),Nat.le_trans hx.r (by decide),Nat.le_trans hx.c (by decide),?_,?_,fun c hc=>Nat.le_trans (hx.cp c hc) (by decide)⟩
  · exact rowD_all routeD_len (P:=fun r=>r.filter.length<=65535) (fun s h=>Nat.le_trans (textD_len1 _) (Nat.le_trans (dotR_len s) h)) (eS2 (gS3 s)) (by omega)
  · exact rowD_all cellD_len (P:=fun c=>c.topic.length<=65535) (fun s h=>Nat.le_trans (textD_len1 (dS4 s)) (Nat.le_trans (dS_len s).1 h)) (eS3 (gS3 s)) (by omega)
 have he:Lite 1000000000 emptyT:=⟨Nat.zero_le _,Nat.zero_le _,Nat.zero_le _,Nat.zero_le _,(fun _ h=>nomatch h),(fun _ h=>nomatch h),(fun _ h=>nomatch h)⟩
 refine ⟨hl,?_,?_⟩
 · unfold frameD
   split
   · exact he
   · split
     · exact ht
     · split<;>exact he
 · unfold frameD
   split
   · exact Nat.zero_le _
   · split
     · exact Nat.zero_le _
     · split
       · exact Nat.le_trans (textD_len1 (gS4 s)) (by omega)
       · exact Nat.zero_le _
theorem frameD_1 {c:UInt8} {s:RS} (h:(c.toNat:Int)=1):frameD c s=(⟨(c.toNat:Int),(intR s).1,(intR (gS1 s)).1,(intR (gS2 s)).1,(rowD 8 numR (gS3 s)).1,(rowD 24 dotR (rowD 8 numR (gS3 s)).2).1,emptyT,0,[],[],0,false⟩,(rowD 24 dotR (rowD 8 numR (gS3 s)).2).2):=by rw [frameD,if_pos h]
theorem frameD_2 {c:UInt8} {s:RS} (h:(c.toNat:Int)=2):frameD c s=(⟨(c.toNat:Int),(intR s).1,(intR (gS1 s)).1,(intR (gS2 s)).1,[],[],(tabD (gS3 s)).1,0,[],[],0,false⟩,(tabD (gS3 s)).2):=by rw [frameD,if_neg (by omega),if_pos h]
theorem frameD_3 {c:UInt8} {s:RS} (h:(c.toNat:Int)=3):frameD c s=(⟨(c.toNat:Int),(intR s).1,(intR (gS1 s)).1,(intR (gS2 s)).1,[],[],emptyT,(intR (gS3 s)).1,(textD (gS4 s)).1,(textD (hS5 s)).1,(intR (hS6 s)).1,false⟩,(intR (hS6 s)).2):=by rw [frameD,if_neg (by omega),if_neg (by omega),if_pos h]
theorem frameD_0 {c:UInt8} {s:RS} (h1:¬ (c.toNat:Int)=1) (h2:¬ (c.toNat:Int)=2) (h3:¬ (c.toNat:Int)=3):frameD c s=(⟨(c.toNat:Int),(intR s).1,(intR (gS1 s)).1,(intR (gS2 s)).1,[],[],emptyT,0,[],[],0,false⟩,gS3 s):=by rw [frameD,if_neg h1,if_neg h2,if_neg h3]
theorem u0_dc (b:Nat) (x:Int) (F:Own):(0<=x/\x<=18446744073709551615)->DC Tryz.prog 73 [.raw (.pointer (some ⟨b,0,none⟩))] ([.blk b [.sl ((leK 8 x).map u8), .bool false]]++F) fun d G=>d = .int .u64 x/\G = .blk b [.sl [], .bool false]::F:=fun h=>by
 have:=uG_dc b ⟨leK 8 x,false⟩ F (by simp only [leK_len];decide)
 have e:=numR_back h [] false
 rw [List.append_nil] at e
 rw [e] at this
 exact this
theorem n0_dc (b:Nat) (r:List UInt8) (F:Own):(r.length<=2000000)->DC Tryz.prog 74 [.raw (.pointer (some ⟨b,0,none⟩))] ([.blk b [.sl (r.map u8), .bool false]]++F) fun d G=>d = .int .i64 (intR ⟨r,false⟩).1/\G = .blk b [.sl (((intR ⟨r,false⟩).2.l).map u8), .bool ((intR ⟨r,false⟩).2.k)]::F:=fun h=>nG_dc b ⟨r,false⟩ F h
theorem rputN_dc (k fr ep at_:Int) (sums:List Int) (seen:List TDot) (se:List TDot) (fe:List TFence) (ro:List TRoute) (ce:List TCell) (seq:Int) (top:Str) (pay:List UInt8) (q:Int) (rt:Bool) (F:Own):(LightD ⟨k,fr,ep,at_,sums,seen,⟨se,fe,ro,ce⟩,seq,top,pay,q,rt⟩/\frameB ⟨k,fr,ep,at_,sums,seen,⟨se,fe,ro,ce⟩,seq,top,pay,q,rt⟩=false)->DC Tryz.prog 17 [.agg [.int .i64 k, .int .i64 fr, .int .i64 ep, .int .i64 at_, .sl (sums.map encU), .sl (seen.map encDot), .sl (se.map encDot), .sl (fe.map encFence), .sl (ro.map encRoute), .sl (ce.map encCell), .int .i64 seq, .str top, .sl (pay.map u8), .int .i64 q, .bool rt]] (([]:Own)++F) fun d G=>d = .tup [.gs (.slice none 0 0) [], .int .i64 26]/\G=[]++F:=fun h=>rfput0_dc ⟨k,fr,ep,at_,sums,seen,⟨se,fe,ro,ce⟩,seq,top,pay,q,rt⟩ F h
theorem rputY_dc (k fr ep at_:Int) (sums:List Int) (seen:List TDot) (se:List TDot) (fe:List TFence) (ro:List TRoute) (ce:List TCell) (seq:Int) (top:Str) (pay:List UInt8) (q:Int) (rt:Bool) (F:Own):(LightD ⟨k,fr,ep,at_,sums,seen,⟨se,fe,ro,ce⟩,seq,top,pay,q,rt⟩/\frameB ⟨k,fr,ep,at_,sums,seen,⟨se,fe,ro,ce⟩,seq,top,pay,q,rt⟩=true)->DC Tryz.prog 17 [.agg [.int .i64 k, .int .i64 fr, .int .i64 ep, .int .i64 at_, .sl (sums.map encU), .sl (seen.map encDot), .sl (se.map encDot), .sl (fe.map encFence), .sl (ro.map encRoute), .sl (ce.map encCell), .int .i64 seq, .str top, .sl (pay.map u8), .int .i64 q, .bool rt]] (([]:Own)++F) fun d G=>∃ f:TFrame,f=⟨k,fr,ep,at_,sums,seen,⟨se,fe,ro,ce⟩,seq,top,pay,q,rt⟩/\(((fullBy f).length<=1048576/\∃ v1 m1,d = .tup [.ar v1 m1, .int .i64 0]/\m1=(fullBy f).length/\G = .arr 1 v1 ((fullBy f).map u8)::F)\/(1048576<(fullBy f).length/\d = .tup [.gs (.slice none 0 0) [], .int .i64 22]/\G=[]++F)):=fun h =>
 (rfput_dc ⟨k,fr,ep,at_,sums,seen,⟨se,fe,ro,ce⟩,seq,top,pay,q,rt⟩ F h).mono fun d G h=>⟨_,rfl,h⟩
attribute [local irreducible] DW SeqD DV DOp DC DVX DVJ frameB fullBy leK frameD valL iterL tabD
theorem rread21s_dc (l:List UInt8) (F:Own):(l.length<12)->DC Tryz.prog 23 [.sl (l.map u8)] (([]:Own)++F) fun d G=>d = .tup [.agg [.int .i64 0, .int .i64 0, .int .i64 0, .int .i64 0, .gs (.slice none 0 0) [], .gs (.slice none 0 0) [], .gs (.slice none 0 0) [], .gs (.slice none 0 0) [], .gs (.slice none 0 0) [], .gs (.slice none 0 0) [], .int .i64 0, .str [], .gs (.slice none 0 0) [], .int .i64 0, .bool false], .int .i64 21]/\G=[]++F:=by
 intro hA
 have h1:=hA
 refine DC.bodyS (n_:=126) (show Tryz.prog.funcs[23]? = some Tryz.f23 by kernel_rfl) rfl rfl (by rfl) ?_
 simp only [env0,List.cons_append,List.nil_append]
 have kw:=ksIs [0,2,3,4,5,6,7,8,9,10,13,23,40,62,63,68,81,86,123]
 have ow:=ownIs [32,46]
 have dw7:=drIs 7 [] [1,6]
 have dw19:=drIs 19 [5,7] [1,3]
 have rw_:=rsIs [.cell 2 33, .tmp 3]
 repeat' (first
  | refine g_ ?_
  | ((with_reducible refine And.intro ?_ ?_);(exact sv_rread21s_dc))
  | (refine DW.cond (by rfl) ?_ ?_<;>(first | exact i0_ | (refine ic_ ?_;intro hb)))
  | ((with_reducible first | refine FVg_cases ?_ ?_ | refine FDg_cases ?_ ?_)<;>(intro hb;rw [hb];revert hb;(first | exact i0_ | (refine i_ ?_;intro hb))))
  | refine r_ ?_
  | refine d_ ?_
  | refine k_ ?_
  | refine vo_ ?_
  | refine o_ ?_
  | refine f_ ?_
  | refine vm_ ?_
  | with_reducible intro b)
 all_goals first
 | ((first | exact fin_ | refine finq_ ?_);done)
 | (exfalso;omega)
theorem sv_rread21m_dc {p:Prop} (h:p:=by first | exact sv | (simp [u8,V.one];omega) | (simp [u8,V.one]<;>fail) | fail):p:=h
theorem s_rread21m_dc {P Q:Prop} (q:Q) (h:Hid Q->P:=by (intro q;simp (maxSteps:=1000000) (disch:=omega) only [push_cast,↓reduceIte,reduceCtorEq,Nat.reduceAdd,Nat.reduceMul,Nat.reduceLT,Nat.reduceLeDiff,Nat.reduceEqDiff,Nat.reduceSub,Int.reduceToNat,Int.reduceLT,Int.reduceLE,Int.reduceAdd,Int.reduceSub,Int.reduceMul,Int.reduceNeg,Nat.reduceBEq,Int.reduceBEq,Int.reduceBNe,Nat.reduceBNe,Int.reduceEq,toN3,takeMap,isU8,isU8_map,byteOf_map,hb0];exact q.1)):P:=h ⟨q⟩
section
attribute [local push_cast 2000] toN3 takeMap isU8 isU8_map byteOf_map
theorem rread21m_dc (l:List UInt8) (F:Own):((12<=l.length/\l.length<=1048576)/\(l.take 3==([72,66,49]:List UInt8))=false)->DC Tryz.prog 23 [.sl (l.map u8)] (([]:Own)++F) fun d G=>d = .tup [.agg [.int .i64 0, .int .i64 0, .int .i64 0, .int .i64 0, .gs (.slice none 0 0) [], .gs (.slice none 0 0) [], .gs (.slice none 0 0) [], .gs (.slice none 0 0) [], .gs (.slice none 0 0) [], .gs (.slice none 0 0) [], .int .i64 0, .str [], .gs (.slice none 0 0) [], .int .i64 0, .bool false], .int .i64 21]/\G=[]++F:=by
 intro hA
 obtain ⟨⟨h1,h2⟩,hb0⟩:=hA
 refine DC.bodyS (n_:=126) (show Tryz.prog.funcs[23]? = some Tryz.f23 by kernel_rfl) rfl rfl (by rfl) ?_
 simp only [env0,List.cons_append,List.nil_append]
 have kw:=ksIs [0,2,3,4,5,6,7,8,9,10,13,23,40,62,63,68,81,86,123]
 have ow:=ownIs [32,46]
 have dw7:=drIs 7 [] [1,6]
 have dw19:=drIs 19 [5,7] [1,3]
 have rw_:=rsIs [.cell 2 33, .tmp 3]
 repeat' (first
  | refine g_ ?_
  | ((with_reducible refine And.intro ?_ ?_);(exact sv_rread21m_dc))
  | (refine DW.cond (by rfl) ?_ ?_<;>(first | exact i0_ | (intro hb;(try simp only [↓reduceCtorEq,not_true_eq_false,not_false_eq_true,hbs,Int.reduceBEq,Int.reduceBNe,Int.reduceEq] at hb);(try refine s_rread21m_dc ?_))))
  | ((with_reducible first | refine FVg_cases ?_ ?_ | refine FDg_cases ?_ ?_)<;>(intro hb;rw [hb];revert hb;(first | exact i0_ | (intro hb;(try simp only [↓reduceCtorEq,not_true_eq_false,not_false_eq_true,hbs,Int.reduceBEq,Int.reduceBNe,Int.reduceEq] at hb);(try refine s_rread21m_dc ?_)))))
  | ((first | refine rn_ ?_ | refine dn_ ?_ | refine kn_ ?_)<;>(refine s_rread21m_dc ?_))
  | ((refine von_ ?_);refine s_rread21m_dc ?_)
  | ((refine on_ ?_);refine s_rread21m_dc ?_)
  | refine f_ ?_
  | refine vm_ ?_
  | with_reducible intro b)
 all_goals first
 | ((first | exact fin_ | refine finq_ ?_);done)
 | (exfalso;omega)
end
theorem sv_rread27_dc {p:Prop} (h:p:=by first | exact sv | (simp [u8,V.one];omega) | (simp [u8,V.one]<;>fail) | fail):p:=h
theorem s_rread27_dc {P Q:Prop} (q:Q) (h:Hid Q->P:=by (intro q;simp (maxSteps:=1000000) (disch:=omega) only [push_cast,↓reduceIte,reduceCtorEq,Nat.reduceAdd,Nat.reduceMul,Nat.reduceLT,Nat.reduceLeDiff,Nat.reduceEqDiff,Nat.reduceSub,Int.reduceToNat,Int.reduceLT,Int.reduceLE,Int.reduceAdd,Int.reduceSub,Int.reduceMul,Int.reduceNeg,Nat.reduceBEq,Int.reduceBEq,Int.reduceBNe,Nat.reduceBNe,Int.reduceEq,toN3,takeMap,dropMap,isU8_map,byteOf_map,hb0,hb1,hb2,eqHB,takeLen];exact q.1)):P:=h ⟨q⟩
section
attribute [local push_cast 2000] toN3 takeMap dropMap isU8_map byteOf_map eqHB takeLen
theorem rread27_dc (l c:List UInt8) (x:Int) (F:Own):((12<=l.length/\l.length<=1048576)/\l.take 3=magicL/\l.drop ((l.length:Int) - 8).toNat=leK 8 x/\l.take ((l.length:Int) - 8).toNat=c/\x≠fnvV c/\(0<=x/\x<=18446744073709551615)/\c.length<=1048576)->DC Tryz.prog 23 [.sl (l.map u8)] (([]:Own)++F) fun d G=>d = .tup [.agg [.int .i64 0, .int .i64 0, .int .i64 0, .int .i64 0, .gs (.slice none 0 0) [], .gs (.slice none 0 0) [], .gs (.slice none 0 0) [], .gs (.slice none 0 0) [], .gs (.slice none 0 0) [], .gs (.slice none 0 0) [], .int .i64 0, .str [], .gs (.slice none 0 0) [], .int .i64 0, .bool false], .int .i64 27]/\G=[]++F:=by
 intro hA
 obtain ⟨⟨h1,h2⟩,hb0,hb1,hb2,hne,hx,hc⟩:=hA
 refine DC.bodyS (n_:=126) (show Tryz.prog.funcs[23]? = some Tryz.f23 by kernel_rfl) rfl rfl (by rfl) ?_
 simp only [env0,List.cons_append,List.nil_append]
 have kw:=ksIs [0,2,3,4,5,6,7,8,9,10,13,23,40,62,63,68,81,86,123]
 have ow:=ownIs [32,46]
 have dw7:=drIs 7 [1,6] []
 have dw19:=drIs 19 [3,5,7] []
 have rw_:=rsIs [.cell 2 33, .tmp 3]
 repeat' (first
  | refine g_ ?_
  | ((with_reducible refine And.intro ?_ ?_);(exact sv_rread27_dc))
  | (refine DW.cond (by rfl) ?_ ?_<;>(first | exact i0_ | (intro hb;(try simp only [↓reduceCtorEq,not_true_eq_false,not_false_eq_true,hbs,Int.reduceBEq,Int.reduceBNe,Int.reduceEq] at hb);(try refine s_rread27_dc ?_))))
  | ((with_reducible first | refine FVg_cases ?_ ?_ | refine FDg_cases ?_ ?_)<;>(intro hb;rw [hb];revert hb;(first | exact i0_ | (intro hb;(try simp only [↓reduceCtorEq,not_true_eq_false,not_false_eq_true,hbs,Int.reduceBEq,Int.reduceBNe,Int.reduceEq] at hb);(try refine s_rread27_dc ?_)))))
  | ((first | refine rn_ ?_ | refine dn_ ?_ | refine kn_ ?_)<;>(refine s_rread27_dc ?_))
  | ((refine dm_ ?_);(first | (refine v_ (rfnv_dc _ _) ?_ (ha:=by exact sv_rread27_dc) (hk:=fun q=>q.1);refine s_rread27_dc ?_)))
  | ((refine von_ ?_);refine s_rread27_dc ?_)
  | (refine p_ (u0_dc _ _ _) ?_ (ha:=by exact sv_rread27_dc);rintro d H1 ⟨rfl,rfl⟩<;>refine s_rread27_dc ?_)
  | (refine q_ (rfnv_dc _ _) ?_ (ha:=by exact sv_rread27_dc) (hk:=fun q=>q.1);refine s_rread27_dc ?_)
  | ((refine on_ ?_);refine s_rread27_dc ?_)
  | refine f_ ?_
  | refine vm_ ?_
  | ((fail_if_success (have zz:=b2));with_reducible intro b2)
  | ((fail_if_success (have zz:=b5));with_reducible intro b5)
  | ((fail_if_success (have zz:=b6));with_reducible intro b6)
  | ((fail_if_success (have zz:=b7));with_reducible intro b7)
  | with_reducible intro b)
 all_goals first
 | ((first | exact fin_ | refine finq_ ?_);done)
 | (exfalso;omega)
end
theorem sv_rreadN_dc {p:Prop} (h:p:=by first | exact sv | (simp [u8,V.one];omega) | (simp [u8,V.one]<;>fail) | (refine ⟨?_,?_,?_⟩<;>first | omega | (simp [leK_len,head_len]<;>omega)) | (refine ⟨?_,?_⟩<;>first | omega | (simp [leK_len,head_len]<;>omega)) | (simp [leK_len,head_len]<;>omega) | exact fnv_b _ | exact Nat.le_trans hrl (by decide) | exact Nat.le_trans hbl (by decide) | ((first | (have e:=hfr;rw [frameD_1 (by assumption)] at e;(try rw [<-h1] at e);simp only [hS6,hS5,gS4,gS3,gS2,gS1] at e;obtain ⟨rfl,rfl⟩:=Prod.mk.inj e) | (have e:=hfr;rw [frameD_2 (by assumption)] at e;(try rw [<-h1] at e);simp only [hS6,hS5,gS4,gS3,gS2,gS1] at e;obtain ⟨rfl,rfl⟩:=Prod.mk.inj e) | (have e:=hfr;rw [frameD_3 (by assumption)] at e;(try rw [<-h1] at e);simp only [hS6,hS5,gS4,gS3,gS2,gS1] at e;obtain ⟨rfl,rfl⟩:=Prod.mk.inj e) | (have e:=hfr;rw [frameD_0 (by assumption) (by assumption) (by assumption)] at e;(try rw [<-h1] at e);simp only [hS6,hS5,gS4,gS3,gS2,gS1] at e;obtain ⟨rfl,rfl⟩:=Prod.mk.inj e));exact ⟨hf,hB⟩) | ((repeat (first | assumption | refine Nat.le_trans (dotR_len _) ?_ | refine Nat.le_trans (intR_len _) ?_ | refine Nat.le_trans (textD_len _) ?_ | refine Nat.le_trans hrl (by decide)))<;>fail) | (refine ⟨?_,by decide⟩;((repeat (first | assumption | refine Nat.le_trans (dotR_len _) ?_ | refine Nat.le_trans (intR_len _) ?_ | refine Nat.le_trans (textD_len _) ?_ | refine Nat.le_trans hrl (by decide)))<;>fail)) | fail):p:=h
theorem s_rreadN_dc {P Q:Prop} (q:Q) (h:Hid Q->P:=by (intro q;simp (maxSteps:=1000000) (disch:=omega) only [push_cast,↓reduceIte,reduceCtorEq,Nat.reduceAdd,Nat.reduceMul,Nat.reduceLT,Nat.reduceLeDiff,Nat.reduceEqDiff,Nat.reduceSub,Int.reduceToNat,Int.reduceLT,Int.reduceLE,Int.reduceAdd,Int.reduceSub,Int.reduceMul,Int.reduceNeg,Nat.reduceBEq,Int.reduceBEq,Int.reduceBNe,Nat.reduceBNe,Int.reduceEq,u8,toN3,takeMap,dropMap,isU8_map,byteOf_map,hb0,hb1,hb2,hb3,hb4,eqHB,takeLen,bneI,encU,klS,klV];exact q.1)):P:=h ⟨q⟩
section
attribute [local push_cast 2000] u8 toN3 takeMap dropMap isU8_map byteOf_map eqHB takeLen encU
theorem rreadN_dc (c:UInt8) (l body r:List UInt8) (f:TFrame) (z:RS) (F:Own):((12<=l.length/\l.length<=65535)/\l.take 3=magicL/\l.drop ((l.length:Int) - 8).toNat=leK 8 (fnvV body)/\l.take ((l.length:Int) - 8).toNat=body/\body.drop 4=r/\l.getD 3 default=c/\frameD c ⟨r,false⟩=(f,z)/\LightD f/\r.length<=65535/\body.length<=65535/\frameB f=false)->DC Tryz.prog 23 [.sl (l.map u8)] (([]:Own)++F) fun d G=>d = .tup [.agg [.int .i64 0, .int .i64 0, .int .i64 0, .int .i64 0, .gs (.slice none 0 0) [], .gs (.slice none 0 0) [], .gs (.slice none 0 0) [], .gs (.slice none 0 0) [], .gs (.slice none 0 0) [], .gs (.slice none 0 0) [], .int .i64 0, .str [], .gs (.slice none 0 0) [], .int .i64 0, .bool false], .int .i64 21]/\G=[]++F:=by
 intro hA
 obtain ⟨⟨h1,h2⟩,hb0,hb1,hb2,hb3,hb4,hfr,hf,hrl,hbl,hB⟩:=hA
 refine DC.bodyS (n_:=126) (show Tryz.prog.funcs[23]? = some Tryz.f23 by kernel_rfl) rfl rfl (by rfl) ?_
 simp only [env0,List.map_nil,List.cons_append,List.nil_append]
 have kw:=ksIs [0,2,3,4,5,6,7,8,9,10,13,23,40,62,63,68,81,86,123]
 have ow:=ownIs [32,46]
 have dw7:=drIs 7 [1,6] []
 have rw_:=rsIs [.cell 2 33, .tmp 3]
 have hc:=c.toNat_lt
 have hi0:=intR_len ⟨r,false⟩
 have hi1:=intR_len (intR ⟨r,false⟩).2
 have hi2:=intR_len (intR (intR ⟨r,false⟩).2).2
 simp only at hi0
 refine DW.tail0 1 ?_
 repeat' (first
  | ((with_reducible refine DW.loopB 1 (X:=Nat×Value×LInts×RS) (fun x=>iterL numR x.1 x.2.2.1 x.2.2.2=rowD 8 numR (gS3 ⟨r,false⟩)/\x.2.2.1.length+x.1<=1000000/\x.2.2.2.l.length<=65535) (fun x=>[(0, .sl (l.map u8)),(2, .raw (.pointer (some ⟨b2,0,none⟩))),(6, .raw (.pointer (some ⟨b6,0,none⟩))),(7, .raw (.pointer (some ⟨b7,0,none⟩))),(8, .int .i64 x.1)]) (fun x=>[.blk b7 [.int .i64 (c.toNat:Int), .int .i64 (intR ⟨r,false⟩).1, .int .i64 (intR (intR ⟨r,false⟩).2).1, .int .i64 (intR (intR (intR ⟨r,false⟩).2).2).1, .gs x.2.1 (x.2.2.1.map encU), .gs (.slice none 0 0) [], .gs (.slice none 0 0) [], .gs (.slice none 0 0) [], .gs (.slice none 0 0) [], .gs (.slice none 0 0) [], .int .i64 0, .str [], .gs (.slice none 0 0) [], .int .i64 0, .bool false], .blk b6 [.sl ((x.2.2.2.l).map u8), .bool (x.2.2.2.k)], .tail 1 x.2.1]) (fun x=>x.1) ((n0, .slice none 0 0,[],z0)) ?_ ?_ ?_);exact (⟨by show _=iterL numR (manyR 8 (intR (intR (intR ⟨r,false⟩).2).2).2).1.toNat [] (manyR 8 (intR (intR (intR ⟨r,false⟩).2).2).2).2;rw [hm0];rfl,by simp only [List.length_nil];omega,by simp only;omega⟩);(simp [Sub,get,keepL]<;>fail);(try simp only [List.map_nil,List.cons_append,List.nil_append]);refine pl_ ?_;intro ⟨n,v,m,y⟩ ⟨h1,h2,h3⟩;(try simp only [List.map_nil,List.cons_append,List.nil_append]);simp only at h1 h2 h3;(try (rcases Nat.eq_zero_or_pos n with hn0 | hn0;(subst hn0;rw [iterL_0] at h1))))
  | refine g_ ?_
  | ((with_reducible refine And.intro ?_ ?_);(exact sv_rreadN_dc))
  | (refine DW.cond (by rfl) ?_ ?_<;>(first | exact i0_ | (intro hb;(try simp only [↓reduceCtorEq,not_true_eq_false,not_false_eq_true,hbs,Int.reduceBEq,Int.reduceBNe,Int.reduceEq] at hb);(try refine s_rreadN_dc ?_))))
  | ((with_reducible first | refine FVg_cases ?_ ?_ | refine FDg_cases ?_ ?_)<;>(intro hb;rw [hb];revert hb;(first | exact i0_ | (intro hb;(try simp only [↓reduceCtorEq,not_true_eq_false,not_false_eq_true,hbs,Int.reduceBEq,Int.reduceBNe,Int.reduceEq] at hb);(try refine s_rreadN_dc ?_)))))
  | ((first | refine rn_ ?_ | refine dn_ ?_ | refine kn_ ?_)<;>(refine s_rreadN_dc ?_))
  | ((refine dm_ ?_);(first | (refine v_ (rfnv_dc _ _) ?_ (ha:=by exact sv_rreadN_dc) (hk:=fun q=>q.1);refine s_rreadN_dc ?_) | (refine v_ (rputN_dc _ _ _ _ _ _ _ _ _ _ _ _ _ _ _ _) ?_ (ha:=by exact sv_rreadN_dc) (hk:=fun q=>q.1);refine s_rreadN_dc ?_)))
  | ((refine von_ ?_);refine s_rreadN_dc ?_)
  | ((first | ((with_reducible apply DW.drawJ (id:=19) 7 [0,2,3,4,5,6,7,8,9,10,13,23,40,62,63,68,81,86,123] [3,5,7] [1] [3] (hm:=by kernel_rfl) (hd:=by kernel_rfl) (hB:=by kernel_rfl) (hN:=by kernel_rfl));(focus (exact rfl));(repeat (with_reducible first | refine OnB.here ?_ | refine OnB.mid ?_ | refine OnB.next ?_))) | (refine DVJ.k_ rfl rfl rfl ?_) | (refine DVJ.f_ rfl rfl rfl ?_))<;>(simp (maxSteps:=1000000) (disch:=omega) only [push_cast,↓reduceIte,reduceCtorEq,Nat.reduceAdd,Nat.reduceMul,Nat.reduceLT,Nat.reduceLeDiff,Nat.reduceEqDiff,Nat.reduceSub,Int.reduceToNat,Int.reduceLT,Int.reduceLE,Int.reduceAdd,Int.reduceSub,Int.reduceMul,Int.reduceNeg,Nat.reduceBEq,Int.reduceBEq,Int.reduceBNe,Nat.reduceBNe,Int.reduceEq,u8,toN3,takeMap,dropMap,isU8_map,byteOf_map,hb0,hb1,hb2,hb3,hb4,eqHB,takeLen,bneI,encU,klS,klV]))
  | (refine p_ (u0_dc _ _ _) ?_ (ha:=by exact sv_rreadN_dc);rintro d H1 ⟨rfl,rfl⟩<;>refine s_rreadN_dc ?_)
  | (refine q_ (rfnv_dc _ _) ?_ (ha:=by exact sv_rreadN_dc) (hk:=fun q=>q.1);refine s_rreadN_dc ?_)
  | (refine p_ (n0_dc _ _ _) ?_ (ha:=by exact sv_rreadN_dc);rintro d H1 ⟨rfl,rfl⟩<;>refine s_rreadN_dc ?_)
  | ((first | refine p_ (nG_dc _ _ _) ?_ (ha:=by exact sv_rreadN_dc) | refine p_ (uG_dc _ _ _) ?_ (ha:=by exact sv_rreadN_dc) | refine p_ (dotsD_dc _ _ _) ?_ (ha:=by exact sv_rreadN_dc) | refine p_ (tabD_dc _ _ _) ?_ (ha:=by exact sv_rreadN_dc) | refine p_ (textD_dc _ _ _) ?_ (ha:=by exact sv_rreadN_dc));rintro d H1 ⟨rfl,rfl⟩<;>refine s_rreadN_dc ?_)
  | (refine p_ (manyN_dc _ _ _ _) ?_ (ha:=by exact sv_rreadN_dc);rintro d H1 ⟨n0,z0,⟨hm0,hn0,hz0⟩,rfl,rfl⟩<;>refine s_rreadN_dc ?_)
  | (refine q_ (rputN_dc _ _ _ _ _ _ _ _ _ _ _ _ _ _ _ _) ?_ (ha:=by exact sv_rreadN_dc) (hk:=fun q=>q.1);refine s_rreadN_dc ?_)
  | ((refine on_ ?_);refine s_rreadN_dc ?_)
  | refine f_ ?_
  | (first | refine DVJ.ma_ rfl rfl rfl ?_ | refine DVJ.mb_ rfl rfl rfl ?_)
  | refine vm_ ?_
  | ((fail_if_success (have zz:=b2));with_reducible intro b2)
  | ((fail_if_success (have zz:=b5));with_reducible intro b5)
  | ((fail_if_success (have zz:=b6));with_reducible intro b6)
  | ((fail_if_success (have zz:=b7));with_reducible intro b7)
  | with_reducible intro b)
 all_goals first
 | ((first | exact fin_ | refine finq_ ?_);done)
 | (obtain ⟨q,rfl⟩:∃ q,n=q+1:=⟨n - 1,by omega⟩
    rw [iterL_s] at h1
    refine ⟨(q,b,m++[(numR y).1],(numR y).2),⟨h1,?_,Nat.le_trans (numR_len y) h3⟩,?_,?_,?_⟩;(dsimp only;rw [List.length_append,List.length_singleton];omega);(dsimp only;omega);(simp [Sub,get,encU]<;>first | done | (push_cast;omega) | fail);(dsimp only;(try simp only [List.map_append,List.map_cons,List.map_nil,encU]);(exact sub_));done)
 | (exfalso;omega)
 | (trace_state;fail)
end
end
end Go.Proofs.YtbmbcjmgjdnlnaaGreatDoor
