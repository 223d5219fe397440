/- Which frame any bytes are, or why none: the law. -/
import Derived.Test.YtbmbcjmgjdnlnaaGreatDoorFv1x
import Derived.Test.YtbmbcjmgjdnlnaaGreatDoorFt8x
import Derived.Test.YtbmbcjmgjdnlnaaGreatDoorFh1x
import Derived.Test.YtbmbcjmgjdnlnaaGreatDoorTbx
import Derived.Test.YtbmbcjmgjdnlnaaGreatDoorEu
import Derived.KernelRfl
namespace Go.Proofs.YtbmbcjmgjdnlnaaGreatDoor
open Go.RowKit
set_option linter.unusedSimpArgs false
set_option linter.unusedVariables false
set_option linter.unusedSectionVars false
set_option maxHeartbeats 4000000
set_option maxRecDepth 100000
section
theorem R.sl_take {S:Addr->Prop} {w:World} {a:Option Addr} {N cap n:Nat} {l:List V} (h:R S w (.slice a N cap) (.sl l)) (hn:n<=l.length):R S w (.slice a n cap) (.sl (l.take n)):=by
 cases h with
 | sl a N cap l sz hN hc ha h1 h2 h3 h4 =>
  have hl:(l.take n).length=n:=by rw [List.length_take];omega
  have hg:∀ i,i<n->(l.take n).getD i .any=l.getD i .any:=fun i hi=>by
   rw [List.getD_eq_getElem?_getD,List.getD_eq_getElem?_getD,List.getElem?_take_of_lt hi]
  refine .sl a n cap _ sz hl.symm (by omega) (fun e=>by rw [ha e];exact List.take_nil) (fun b hb hne=>h1 b hb (fun e=>hne (by rw [e];exact List.take_nil))) (fun i hi=>?_) (fun b i k hb hi hk=>?_) (fun b i k hb hi hk=>?_)
  · rw [hl] at hi;rw [hg i hi];exact h2 i (by omega)
  · rw [hl] at hi;exact h3 b i k hb (by omega) hk
  · rw [hl] at hi;rw [hg i hi];exact h4 b i k hb (by omega) hk
theorem DOp.convsub_ {P:Program} {o:Oper} {f:Operand->V} {H:Own} {K:V->Own->Prop} {sT dT:TypeId} {x:Operand} {v:Value} {n:Nat} (hop:o.op = .convert sT dT x) (hx:f x = .sub 1 v 0 n)
  (h:OnA H v fun sz cs _=>((sz=1/\(ty P sT).kind=4/\(ty P dT).kind=3/\(ty P (ty P sT).elem).ik=some .u8/\cs.all isU8=true/\n<=cs.length)/\K (.str ((cs.take n).map byteOf)) H)):DOp P o f H K:=by
 obtain ⟨sz,cs,L1,L2,rfl,⟨rfl,h1,h2,h3,h4,hn⟩,hk⟩:=h
 refine DOp.step fun a w hs hr=>?_
 have hv:=hr x (by simp [hop,Op.operands])
 rw [hx] at hv
 have hvv:∃ A N cap,a.eval x = .slice A n cap/\v = .slice A N cap:=by
  generalize a.eval x=u at hv
  cases hv with
  | sub sz A N cap lo n h ha =>
   refine ⟨A,N,cap,?_,rfl⟩
   have e:(if cap=0 then A else A.map (·.add (0 * 1)))=A:=by
    split
    · rfl
    · cases A with
      | none=>rfl
      | some b=>simp [Addr.add]
   rw [e];rfl
 obtain ⟨A,N,cap,hva,hvs⟩:=hvv
 subst hvs
 have hc:=cells_isU8 cs h4
 have hn1:∀ y∈cs,y.n=1:=fun y hy=>(isU8_one (List.all_eq_true.1 h4 y hy)).2
 have hs':Sim w (L1 ++ .arr 1 (.slice A N cap) (cells cs)::L2):=by rw [hc];exact hs
 obtain ⟨⟨g1,g2⟩,g3⟩:=hs'.frz (by decide) hn1
 have g4:R (stable w (L1 ++ .tail 1 (.slice A N cap)::L2)) w (.slice A N cap) (.sl cs):=by cases g3 with | gs v l h=>exact h
 have h4':(cs.take n).all isU8=true:=List.all_eq_true.2 fun y hy=>List.all_eq_true.1 h4 y (List.mem_of_mem_take hy)
 have hb:=bytes_run (P:=P) (fun a ha=>ha.1) (g4.sl_take hn) h4'
 refine ⟨.string (bs ((cs.take n).map byteOf)),w,_,_,?_,⟨hs, .refl _ _⟩, .str _,hk⟩
 have hcv:(Go.convert sT dT (a.eval x)).run P w = .ok (.string (bs ((cs.take n).map byteOf))) w:=by
  rw [hva]
  rw [run_convert_bytes_string w sT dT _ _ _ _ (und_slice h1) (und_int h3) (und_string h2)]
  exact hb
 unfold execOp
 rw [hop]
 simp only
 rw [Sem.run_bind,hcv]
 rfl
theorem byte_at {l:Str} {k:Nat} (h:k<l.length):(List.drop k (l.map u8)).getD 0 .any = .int .u8 ((l.getD k 0).toNat:Int):=by
 rw [dropD,Nat.add_zero,List.getD_eq_getElem?_getD,List.getElem?_map,List.getD_eq_getElem?_getD];simp [h,u8]
theorem byte_set:∀ {l:Str} {k:Nat} {c:UInt8},k<l.length->layV (l.map u8) k [u8 c]=(l.set k c).map u8
 | [],k,c,h=>absurd h (Nat.not_lt_zero _)
 | e::l,0,c,_=>rfl
 | e::l,k+1,c,h=>by rw [List.map_cons,lay_cons,byte_set (by simpa using h)];rfl
theorem byte_wrap {l:Str} {k:Nat} {q:Int} (h:k<l.length):layV (l.map u8) k [.int .u8 (IntKind.u8.wrap q)]=(l.set k (byteI q)).map u8:=by rw [<-u8_byteI];exact byte_set h
theorem byte_int {l:Str} {k:Nat} {v:Int} (h:k<l.length) (h0:0<=v) (h1:v<=255):layV (l.map u8) k [.int .u8 v]=(l.set k (byteI v)).map u8:=by
 rw [show V.int .u8 v=u8 (byteI v) by rw [u8_byteI,wrap_u8 v h0 h1]];exact byte_set h
theorem byte_snoc {l:Str} {v:Int} (h0:0<=v) (h1:v<=255):l.map u8++[.int .u8 v]=(l++[byteI v]).map u8:=by
 rw [show V.int .u8 v=u8 (byteI v) by rw [u8_byteI,wrap_u8 v h0 h1],List.map_append];rfl
theorem map_back (l:Str):List.map byteOf (List.map u8 l)=l:=bytes_back l
theorem hb_cons (l:Str):(V.int .u8 72::V.int .u8 66::V.int .u8 49::l.map u8)=(72::66::49::l:Str).map u8:=rfl
theorem at_in {q:Int} {m:Nat} (h:0<=q) (hm:1<=m):0<=q.tmod m/\q.tmod m<m:=⟨Int.tmod_nonneg _ h,Int.tmod_lt_of_pos q (by omega)⟩
theorem at_in8 {q:Int} {m:Nat} (h:0<=q) (hm:9<=m):0<=q.tmod ((m:Int) - 8)/\q.tmod ((m:Int) - 8)<(m:Int) - 8:=⟨Int.tmod_nonneg _ h,Int.tmod_lt_of_pos q (by omega)⟩
theorem SomeF.lightD {x:Str} {f:TFrame} (h:SomeF x f):LightD f:=⟨h.b,h.d.1,Nat.le_trans h.d.2 (by decide)⟩
abbrev LB:=List UInt8
theorem rfputS_dc (f:TFrame) (F:Own):(LightD f/\frameB f=true/\(fullBy f).length<=1048576)->DC Tryz.prog 17 [.agg [.int .i64 f.kind, .int .i64 f.fr, .int .i64 f.ep, .int .i64 f.at_, .sl (f.sums.map encU), .sl (f.seen.map encDot), .sl (f.tab.seen.map encDot), .sl (f.tab.fences.map encFence), .sl (f.tab.routes.map encRoute), .sl (f.tab.cells.map encCell), .int .i64 f.seq, .str f.topic, .sl (f.payload.map u8), .int .i64 f.qos, .bool f.retain]] (([]:Own)++F) fun d G=>∃ v1 m1,d = .tup [.ar v1 m1, .int .i64 0]/\m1=(fullBy f).length/\G = .arr 1 v1 ((fullBy f).map u8)::F:=fun h =>
 (rfput_dc f F ⟨h.1,h.2.1⟩).mono fun d G q=>by
   rcases q with ⟨_,q⟩ | ⟨q,_⟩
   · exact q
   · have:=h.2.2;omega
theorem preadH_dc (l:List UInt8) (m:Int) (F:Own):(72::66::49::l:Str).length<=1048576->DC Tryz.prog 20 [.sl (u8 72::u8 66::u8 49::l.map u8)] ([knF,knA,knM m]++F) fun d G=>d = .tup [.agg [.int .i64 (readF (72::66::49::l)).kind, .int .i64 (readF (72::66::49::l)).fr, .int .i64 (readF (72::66::49::l)).ep, .int .i64 (readF (72::66::49::l)).at_, .sl ((readF (72::66::49::l)).sums.map encU), .sl ((readF (72::66::49::l)).seen.map encDot), .sl ((readF (72::66::49::l)).tab.seen.map encDot), .sl ((readF (72::66::49::l)).tab.fences.map encFence), .sl ((readF (72::66::49::l)).tab.routes.map encRoute), .sl ((readF (72::66::49::l)).tab.cells.map encCell), .int .i64 (readF (72::66::49::l)).seq, .str (readF (72::66::49::l)).topic, .sl ((readF (72::66::49::l)).payload.map u8), .int .i64 (readF (72::66::49::l)).qos, .bool (readF (72::66::49::l)).retain], .int .i64 (readE (72::66::49::l))]/\G=[knF,knA,knM m]++F:=fun h=>pread_dc (72::66::49::l) m F h
theorem rreadH_dc (l:List UInt8) (F:Own):(72::66::49::l:Str).length<=65535->DC Tryz.prog 23 [.sl (u8 72::u8 66::u8 49::l.map u8)] (([]:Own)++F) fun d G=>d = .tup [.agg [.int .i64 (readF (72::66::49::l)).kind, .int .i64 (readF (72::66::49::l)).fr, .int .i64 (readF (72::66::49::l)).ep, .int .i64 (readF (72::66::49::l)).at_, .sl ((readF (72::66::49::l)).sums.map encU), .sl ((readF (72::66::49::l)).seen.map encDot), .sl ((readF (72::66::49::l)).tab.seen.map encDot), .sl ((readF (72::66::49::l)).tab.fences.map encFence), .sl ((readF (72::66::49::l)).tab.routes.map encRoute), .sl ((readF (72::66::49::l)).tab.cells.map encCell), .int .i64 (readF (72::66::49::l)).seq, .str (readF (72::66::49::l)).topic, .sl ((readF (72::66::49::l)).payload.map u8), .int .i64 (readF (72::66::49::l)).qos, .bool (readF (72::66::49::l)).retain], .int .i64 (readE (72::66::49::l))]/\G=[]++F:=fun h=>rread_dc (72::66::49::l) F h
attribute [local irreducible] DW SeqD DV DOp DC DVX DVJ DVM frameB fullBy
theorem sv_frameReads_dc {p:Prop} (h:p:=by first | exact sv | (simp [u8,V.one];omega) | (simp [u8,V.one]<;>fail) | exact ⟨hn20,deeds_ok hl hx30,hk,ha,by omega⟩ | exact ⟨hf.lightD,hf.r,Nat.le_trans hf.n (by decide)⟩ | (simp only [List.length_set,List.length_take,List.length_append,List.length_cons,List.length_nil];omega) | (refine read_lightD ?_;first | omega | (simp only [List.length_set,List.length_take,List.length_append,List.length_cons,List.length_nil];omega)) | fail):p:=h
section
attribute [local push_cast 2000] V.sl.injEq forall_eq' forall_eq cells_u8 byte_at byte_wrap byte_int byte_snoc map_back hb_cons takeMap byteOf_map isU8_map List.length_set
theorem frameReads_dc (raw:Str) (l:List TDeed) (k a:Int) (x:List UInt8) (q v w_:Int) (m0:Int) (F:Own):((∀ d∈l,deedR d)/\(0<=k/\k<=255)/\(0<=a/\a<=255)/\(0<=q/\q<=65535)/\(0<=v/\v<=255)/\(0<=w_/\w_<=255))->DC Tryz.prog 4 [.sl (raw.map u8), .sl (l.map encDeed), .int .u8 k, .int .u8 a, .sl (x.map u8), .int .u16 q, .int .u8 v, .int .u8 w_] ([knF,knA,knM m0]++F) fun d G=>d = .bool true/\G=[knF,knA,knM m0]++F:=by
 intro hA
 obtain ⟨hl,hk,ha,hq,hv,hw⟩:=hA
 refine DC.bodyS (n_:=147) (show Tryz.prog.funcs[4]? = some Tryz.f4 by kernel_rfl) rfl rfl (by rfl) ?_
 simp only [env0,List.cons_append,List.nil_append]
 have kw:=ksIs [0,1,2,3,4,5,6,7,16,17,19,20,21,22,24,25,26,27,28,30,43,56,73,86,99,108,121,122,123,124,145]
 have ow:=ownIs [69,70,117,118]
 repeat' (first
  | ((fail_if_success (have zz:=hfn));(subst hm1);have hfn:=hf.n;have hfl:=fullBy_len f;have hq0:=at_in (q:=q) (m:=(fullBy f).length) hq.1 (by omega);have hq8:=at_in8 (q:=q) (m:=(fullBy f).length) hq.1 (by omega);have hw3:=Int.tmod_nonneg 4 hw.1;have hw4:=Int.tmod_lt_of_pos w_ (show (0:Int)<4 by decide))
  | ((with_reducible refine DW.regK (id:=10) [0,1,2,3,4,5,6,7,16,17,19,20,21,22,24,25,26,27,28,30,43,56,73,86,99,108,121,122,123,124,145] (by kernel_rfl) ?_);(refine s_ ?_);(refine SeqD.opP rfl ?_);(refine s_ ?_);(refine SeqD.opP rfl ?_);(refine s_ ?_);(refine SeqD.op rfl ?_);(refine DOp.slicea_ rfl rfl ?_);(refine s_ ?_);(refine And.intro ?_ ?_);(focus (first | exact sv | (simp;omega) | (simp<;>omega)));(refine SeqD.op rfl ?_);(refine DOp.convsub_ rfl rfl ?_;(repeat (with_reducible first | refine OnA.here ?_ | refine OnA.next ?_)));(refine s_ ?_);(refine And.intro ?_ ?_);(focus (first | exact sv | (simp [u8,V.one];omega) | (simp;omega))))
  | ((with_reducible apply DW.frzR 6);(repeat (with_reducible first | refine OnA.here ?_ | refine OnA.next ?_));refine ⟨(cells_u8 _).symm,by decide,(by intro y hy;obtain ⟨x,_,rfl⟩:=List.mem_map.1 hy;rfl),?_,?_⟩;(repeat (first | exact CvE.nil | apply CvE.cons (Cv.hit _) | apply CvE.cons (Cv.rfl _))))
  | ((with_reducible apply DW.frzR 18);(repeat (with_reducible first | refine OnA.here ?_ | refine OnA.next ?_));refine ⟨(cells_u8 _).symm,by decide,(by intro y hy;obtain ⟨x,_,rfl⟩:=List.mem_map.1 hy;rfl),?_,?_⟩;(repeat (first | exact CvE.nil | apply CvE.cons (Cv.hit _) | apply CvE.cons (Cv.rfl _))))
  | ((with_reducible apply DW.frzR 21);(repeat (with_reducible first | refine OnA.here ?_ | refine OnA.next ?_));refine ⟨(cells_u8 _).symm,by decide,(by intro y hy;obtain ⟨x,_,rfl⟩:=List.mem_map.1 hy;rfl),?_,?_⟩;(repeat (first | exact CvE.nil | apply CvE.cons (Cv.hit _) | apply CvE.cons (Cv.rfl _))))
  | ((with_reducible refine DW.loopB 1 (X:=Nat×LB) (fun x=>x.1<=8/\x.2.length=(fullBy f).length) (fun x=>[(0, .sl (raw.map u8)),(17, .gs v1 ((fullBy f).map u8)),(19, .ar v2 (fullBy f).length),(20, .int .i64 (((fullBy f).length:Int) - 8)),(21, .int .u64 (fnvV (List.take ((((fullBy f).length:Int) - 8).toNat - 0) ((fullBy f).set (q.tmod (((fullBy f).length:Int) - 8)).toNat (byteI v))))),(22, .int .i64 x.1)]) (fun x=>.arr 1 v2 (x.2.map u8)::([]:Own)) (fun x=>8 - x.1) ((0,(fullBy f).set (q.tmod (((fullBy f).length:Int) - 8)).toNat (byteI v))) ?_ ?_ ?_);exact (⟨Nat.zero_le _,by simp⟩);(simp [Sub,get,keepL]<;>fail);(try simp only [List.cons_append,List.nil_append]);refine pl_ ?_;intro ⟨j,C⟩ ⟨hj,hC⟩;(try simp only [List.cons_append,List.nil_append]);simp only at hj hC)
  | ((with_reducible refine DW.loopB 3 (X:=Nat) (fun x=>x<=4) (fun x=>[(121, .sl [.sl (raw.map u8), .gs v1 ((fullBy f).map u8), .gs v2 (((fullBy f).set (q.tmod ((fullBy f).length:Int)).toNat (byteI (BitVec.toNat (BitVec.ofInt IntKind.u8.bits (((fullBy f).getD (q.tmod ((fullBy f).length:Int)).toNat 0).toNat:Int)^^^BitVec.ofInt IntKind.u8.bits v):Int))).map u8), .gs b ((72::66::49::raw:Str).map u8)]),(122, .int .i64 4),(123, .int .i64 x)]) (fun x=>[knF,knA,knM m0]) (fun x=>4 - x) (0) ?_ ?_ ?_);exact (Nat.zero_le _);(simp [Sub,get,keepL]<;>fail);(try simp only [List.cons_append,List.nil_append]);refine pl_ ?_;intro i hi;(try simp only [List.cons_append,List.nil_append]);(try simp only at hi);rcases (show i=0\/i=1\/i=2\/i=3\/i=4 by omega) with hi0 | hi0 | hi0 | hi0 | hi0<;>subst hi0)
  | ((with_reducible refine DW.loopB 3 (X:=Nat) (fun x=>x<=4) (fun x=>[(121, .sl [.sl (raw.map u8), .gs v1 ((fullBy f).map u8), .sl (((fullBy f).take (q.tmod ((fullBy f).length:Int)).toNat).map u8), .gs b ((72::66::49::raw:Str).map u8)]),(122, .int .i64 4),(123, .int .i64 x)]) (fun x=>[knF,knA,knM m0]) (fun x=>4 - x) (0) ?_ ?_ ?_);exact (Nat.zero_le _);(simp [Sub,get,keepL]<;>fail);(try simp only [List.cons_append,List.nil_append]);refine pl_ ?_;intro i hi;(try simp only [List.cons_append,List.nil_append]);(try simp only at hi);rcases (show i=0\/i=1\/i=2\/i=3\/i=4 by omega) with hi0 | hi0 | hi0 | hi0 | hi0<;>subst hi0)
  | ((with_reducible refine DW.loopB 3 (X:=Nat) (fun x=>x<=4) (fun x=>[(121, .sl [.sl (raw.map u8), .gs v1 ((fullBy f).map u8), .gs v5 ((fullBy f++[byteI v]).map u8), .gs b ((72::66::49::raw:Str).map u8)]),(122, .int .i64 4),(123, .int .i64 x)]) (fun x=>[knF,knA,knM m0]) (fun x=>4 - x) (0) ?_ ?_ ?_);exact (Nat.zero_le _);(simp [Sub,get,keepL]<;>fail);(try simp only [List.cons_append,List.nil_append]);refine pl_ ?_;intro i hi;(try simp only [List.cons_append,List.nil_append]);(try simp only at hi);rcases (show i=0\/i=1\/i=2\/i=3\/i=4 by omega) with hi0 | hi0 | hi0 | hi0 | hi0<;>subst hi0)
  | ((with_reducible refine DW.loopB 3 (X:=Nat) (fun x=>x<=4) (fun x=>[(121, .sl [.sl (raw.map u8), .gs v1 ((fullBy f).map u8), .gs v2 (C.map u8), .gs b ((72::66::49::raw:Str).map u8)]),(122, .int .i64 4),(123, .int .i64 x)]) (fun x=>[knF,knA,knM m0]) (fun x=>4 - x) (0) ?_ ?_ ?_);exact (Nat.zero_le _);(simp [Sub,get,keepL]<;>fail);(try simp only [List.cons_append,List.nil_append]);refine pl_ ?_;intro i hi;(try simp only [List.cons_append,List.nil_append]);(try simp only at hi);rcases (show i=0\/i=1\/i=2\/i=3\/i=4 by omega) with hi0 | hi0 | hi0 | hi0 | hi0<;>subst hi0)
  | refine g_ ?_
  | ((with_reducible refine And.intro ?_ ?_);(exact sv_frameReads_dc))
  | (refine DW.cond (by rfl) ?_ ?_<;>(first | exact i0_ | (refine ic_ ?_;intro hb)))
  | ((with_reducible refine FVg_cases ?_ ?_)<;>(intro hb;rw [hb];revert hb;(first | exact i0_ | (refine i_ ?_;intro hb))))
  | refine r_ ?_
  | refine k_ ?_
  | ((first | (refine DOp.app0a_ [54] rfl rfl rfl rfl (by intro h;cases h) ?_))<;>(refine s_ ?_))
  | ((first | refine q_ (known14_dc _) ?_ (ha:=by exact sv_frameReads_dc) | refine q_ (rfnv_dc _ _) ?_ (ha:=by exact sv_frameReads_dc) | refine q_ (pread_dc _ _ _) ?_ (ha:=by exact sv_frameReads_dc) | refine q_ (rread_dc _ _) ?_ (ha:=by exact sv_frameReads_dc) | refine q_ (helpF_dc _ _) ?_ (ha:=by exact sv_frameReads_dc)))
  | (refine p_ (few_dc _ _) ?_ (ha:=by exact sv_frameReads_dc);rintro d H1 (⟨rfl,⟨hn20,hx30⟩,rfl⟩ | ⟨rfl,rfl⟩)<;>refine s_ ?_)
  | (refine p_ (someF_dc _ _ _ _ _) ?_ (ha:=by exact sv_frameReads_dc);rintro d H1 ⟨f,hf,rfl,rfl⟩<;>refine s_ ?_)
  | (refine p_ (rfputS_dc _ _) ?_ (ha:=by exact sv_frameReads_dc);rintro d H1 ⟨v1,m1,rfl,hm1,rfl⟩<;>refine s_ ?_)
  | (refine q_ (preadH_dc _ _ _) ?_ (ha:=by exact sv_frameReads_dc))
  | (refine q_ (rreadH_dc _ _) ?_ (ha:=by exact sv_frameReads_dc))
  | refine o_ ?_
  | refine f_ ?_
  | ((refine DOp.slicea_ rfl rfl ?_)<;>(refine s_ ?_))
  | ((refine DOp.convsub_ rfl rfl ?_;(repeat (with_reducible first | refine OnA.here ?_ | refine OnA.next ?_)))<;>(refine s_ ?_))
  | ((fail_if_success (have zz:=v2));with_reducible intro v2)
  | ((fail_if_success (have zz:=v5));with_reducible intro v5)
  | with_reducible intro b)
 all_goals first
 | (refine ⟨1,?_,?_,?_,?_⟩;(((try simp only);omega));(((try simp only);omega));(simp [Sub,get]<;>(fail));(try dsimp only);(exact sub_);done)
 | (refine ⟨2,?_,?_,?_,?_⟩;(((try simp only);omega));(((try simp only);omega));(simp [Sub,get]<;>(fail));(try dsimp only);(exact sub_);done)
 | (refine ⟨3,?_,?_,?_,?_⟩;(((try simp only);omega));(((try simp only);omega));(simp [Sub,get]<;>(fail));(try dsimp only);(exact sub_);done)
 | (refine ⟨4,?_,?_,?_,?_⟩;(((try simp only);omega));(((try simp only);omega));(simp [Sub,get]<;>(fail));(try dsimp only);(exact sub_);done)
 | (refine ⟨(j+1,C.set (((fullBy f).length:Int) - 8+(j:Int)).toNat (byteI ((fnvV (List.take ((((fullBy f).length:Int) - 8).toNat - 0) ((fullBy f).set (q.tmod (((fullBy f).length:Int) - 8)).toNat (byteI v)))).fdiv (2 ^ min (8 * (j:Int)).toNat IntKind.u64.bits)))),⟨by dsimp only;omega,by dsimp only;rw [List.length_set];exact hC⟩,by dsimp only;omega,?_,?_⟩;(simp [Sub,get]<;>fail);((try dsimp only);(exact sub_));done)
 | ((first | exact fin_ | refine finq_ ?_);done)
 | (exfalso;omega)
 | (trace_state;fail)
end
end
end Go.Proofs.YtbmbcjmgjdnlnaaGreatDoor
