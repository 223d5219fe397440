/- The broker: who is there, who is shut, lost; a connection is opened, over the whole state. -/
import Derived.Test.YtgekknefphagbaaGreatDoorOfx
import Derived.KernelRfl
import Derived.Test.YtgekknefphagbaaGreatDoorTmx
namespace Go.Proofs.YtgekknefphagbaaGreatDoor
open Go.RowKit
set_option linter.unusedSimpArgs false
set_option linter.unusedVariables false
set_option linter.unusedSectionVars false
set_option maxHeartbeats 4000000
set_option maxRecDepth 100000
section
attribute [local irreducible] SN.own ownT ownC ownS zal zcl za0 zav zaK
theorem zg9 (s:BN) (n:Int):(s.pl.conn n).isSome=(lookA n (kvC s.cs)).isSome:=by
 rw [znf]
 unfold Br.conn BN.pl
 simp only [List.find?_map,Option.isSome_map]
 rfl
attribute [local irreducible] DW SeqD DV DOp DC DVX DVJ idsF usI sortS putM zaj onlyM
theorem zj9 {s:BN} {c:Cn} (h:BOK s) (hc:c∈s.cs):s.pl.conn c.n=some c.pl:=by
 obtain ⟨l1,l2,hs,h1,h2⟩:=zc0 h.cn hc
 exact zmu hs h1
theorem zgD {s:BN} {n:Int} {p:CP} (h:s.pl.conn n=some p):∃ c∈s.cs,c.pl=p/\c.n=n:=by
 unfold Br.conn BN.pl at h
 have h1:=List.mem_of_find?_eq_some h
 have h2:=List.find?_some h
 obtain ⟨c,hc,rfl⟩:=List.mem_map.1 h1
 exact ⟨c,hc,rfl,by simpa [Cn.pl] using h2⟩
theorem zeC (bb:Nat) (m:Int) (s:BN) (c:Cn) (n:Int) (F:Own):(BOK s/\(c∈s.cs/\c.n=n)/\BSz s.pl)->DC Tryz.prog 38 [.raw (.pointer (some ⟨bb,0,none⟩)), .int .i64 n] ((loose::knF::knA::knM m::(ownB bb s++[]))++F) fun d G=>∃ s':BN,(BOK s'/\s'.pl=(zae n s.pl).2)/\d = .agg [.sl ((zae n s.pl).1.outs.map encOu), .sl ((zae n s.pl).1.pubs.map encM), .sl ((zae n s.pl).1.adds.map V.str), .sl ((zae n s.pl).1.drops.map V.str)]/\G=loose::knF::knA::knM m::(ownB bb s'++F):=by
 rintro ⟨h1,⟨h2,rfl⟩,h3⟩
 exact zoQ bb m s c F ⟨h1,h2,h3⟩
attribute [local irreducible] ownB zae zbj
end
section
theorem OnB.inC {cs:List Cn} {H:Own} {b:Nat} {c:Cn} {G:List V->(Ent->Own)->Prop} (hc:c∈cs/\c.b=b) (k:∀ C,G c.cells C):OnB (ownC cs++H) b G:=by
 obtain ⟨h,rfl⟩:=hc
 obtain ⟨l1,l2,rfl⟩:=List.append_of_mem h
 refine ⟨_,ownC l1, .blk c.st [c.lv, .int .i64 c.bad]::(ownC l2++H),?_,k _⟩
 rw [zad];simp [Cn.own]
section
variable {P:Program} {n:Nat} {Q:Exit->Env->Own->Prop} {e:Env} {H:Own}
theorem DW.unitR (id:Nat) {ops:Array Oper} {dr:Bool} {r mr:Nat} {m left cur:List (V×V)} (ho:Out H (.miter r mr m left cur) fun F=>DW P n (.region id ops dr) Q e (.map mr m::F)):DW P n (.region id ops dr) Q e H:=by
 obtain ⟨F,hp,h⟩:=ho
 refine DW.perm hp fun a w hs hr=>?_
 obtain ⟨g1,g2⟩:=Sim.unit (L1:=[]) (L2:=F) hs
 exact wp_mono (h a w g1 (hr.ext g2)) fun x a1 w1 ⟨hd,e1,H1,s,r,x1,q⟩=>⟨hd,e1,H1,s,r,g2.trans x1,q⟩
end
theorem cn_uniq {cs:List Cn} (hn:(cs.map (·.n)).Nodup) {c d:Cn} (hc:c∈cs) (hd:d∈cs) (h:d.n=c.n):d=c:=by
 obtain ⟨l1,l2,rfl,h1,h2⟩:=zc0 hn hc
 rcases List.mem_append.1 hd with hd | hd
 · exact absurd h (h1 d hd)
 · rcases List.mem_cons.1 hd with rfl | hd
   · rfl
   · exact absurd h (h2 d hd)
theorem zn9 {cs:List Cn} {nm:YS} (hn:(cs.map (·.n)).Nodup) {A C:List (Int×Nat)} {x:Int×Nat} (hdone:∀ c∈cs,(c.n,c.b)∈A++x::C\/c.s.map (·.1)≠some nm) {c:Cn} (hcx:c∈cs/\c.b=x.2) (hcn:c.n=x.1) (hne:c.s.map (·.1)≠some nm):∀ d∈cs,(d.n,d.b)∈A++C\/d.s.map (·.1)≠some nm:=fun d hd=>by
 rcases hdone d hd with h | h
 · rcases List.mem_append.1 h with h | h
   · exact .inl (List.mem_append.2 (.inl h))
   · rcases List.mem_cons.1 h with h | h
     · right
       have:d.n=c.n:=by rw [hcn,<-h]
       rw [cn_uniq hn hcx.1 hd this];exact hne
     · exact .inl (List.mem_append.2 (.inr h))
 · exact .inr h
theorem of_no {c:Cn} {nm:YS} (h:c.s=none):c.s.map (·.1)≠some nm:=by rw [h];simp
theorem of_ne {c:Cn} {nm nm2:YS} {b:Nat} (h:c.s=some (nm2,b)) (hn:¬ nm2=nm):c.s.map (·.1)≠some nm:=by rw [h];simpa using hn
theorem kvC_mem {cs:List Cn} {x:Int×Nat} (h:x∈kvC cs):∃ c,(c∈cs/\c.b=x.2)/\c.n=x.1:=by
 obtain ⟨c,hc,rfl⟩:=List.mem_map.1 h
 exact ⟨c,⟨hc,rfl⟩,rfl⟩
theorem ofM_y {s:BN} (h:BOK s) {c:Cn} (hc:c∈s.cs) {nm:YS} {b:Nat} (hs:c.s=some (nm,b)):ofM nm s.pl=c.n:=by
 unfold ofM BN.pl
 simp only
 cases hf:(s.cs.map Cn.pl).find? fun c=>c.s==some nm with
 | none =>
  have:=List.find?_eq_none.1 hf c.pl (List.mem_map.2 ⟨c,hc,rfl⟩)
  simp [Cn.pl,hs] at this
 | some p =>
  obtain ⟨d,hd,rfl⟩:=List.mem_map.1 (List.mem_of_find?_eq_some hf)
  have h2:=List.find?_some hf
  simp only [Cn.pl,beq_iff_eq,Option.map_eq_some_iff] at h2
  obtain ⟨e,he,hee⟩:=h2
  exact (h.sd c hc d hd _ _ hs he hee.symm).symm
theorem ofM_n {s:BN} {nm:YS} (h:∀ c∈s.cs,c.s.map (·.1)≠some nm):ofM nm s.pl = -1:=by
 unfold ofM BN.pl
 simp only
 rw [List.find?_eq_none.2 (fun p hp=>by obtain ⟨c,hc,rfl⟩:=List.mem_map.1 hp;simpa [Cn.pl] using h c hc)]
 rfl
attribute [local irreducible] SN.own ownT ownC ownS zal zcl za0 zav zaK
attribute [local irreducible] DW SeqD DV DOp DC DVX DVJ idsF usI sortS putM zaj onlyM
theorem sclS_dc (ss:List SN) (b:Nat) (nm:YS) (F:Own):(∃ y∈ss,y.a.name=nm/\y.b=b)->DC Tryz.prog 49 [.raw (.pointer (some ⟨b,0,none⟩))] ((ownS ss++[])++F) fun d G=>d = .str nm/\G=(ownS ss++[])++F:=by
 rintro ⟨y,hy,rfl,rfl⟩
 obtain ⟨l1,l2,rfl⟩:=List.append_of_mem hy
 refine DC.conv (scliX y (ownS l1++(ownS l2++F)) trivial) (by (simp only [zai,List.append_assoc,List.append_nil]);exact sub_) ?_
 rintro d G ⟨rfl,rfl⟩
 exact ⟨_,_,le.rfl_,⟨rfl,rfl⟩,by (simp only [zai,List.append_assoc,List.append_nil]);exact sub_⟩
abbrev CMp:=List (Int×Nat)
theorem zoK {ss:List SN} (c:Cn) (h:∀ e,c.s=some e->∃ x∈ss,x.a.name=e.1/\x.b=e.2):(c.s=none/\c.sv = .raw (.pointer none))\/∃ nm b,c.s=some (nm,b)/\c.sv = .raw (.pointer (some ⟨b,0,none⟩))/\∃ y∈ss,y.a.name=nm/\y.b=b:=by
 cases hs:c.s with
 | none=>exact .inl ⟨rfl,by unfold Cn.sv;rw [hs];rfl⟩
 | some e=>exact .inr ⟨e.1,e.2,rfl,by unfold Cn.sv;rw [hs];rfl,h e hs⟩
theorem zgR {p:Prop} (h:p:=by first | exact sv | exact hy | fail):p:=h
theorem zgo {P Q:Prop} (q:Q) (h:Hid Q->P:=by (intro q;simp (maxSteps:=1000000) (disch:=omega) only [push_cast,↓reduceIte,reduceCtorEq,Nat.reduceAdd,Nat.reduceMul,Nat.reduceLT,Nat.reduceLeDiff,Nat.reduceEqDiff,Nat.reduceSub,Int.reduceToNat,Int.reduceLT,Int.reduceLE,Int.reduceAdd,Int.reduceSub,Int.reduceMul,Int.reduceNeg,Nat.reduceBEq,Int.reduceBEq,Int.reduceBNe,Nat.reduceBNe,Int.reduceEq,hlk,hC];exact q.1)):P:=h ⟨q⟩
section
attribute [local push_cast 2000] Cn.cells za9 zaW za8 zaL za3 zaG zaV za7 zax za2 zaX zaB zaC zaY zaE zaq za6 zat zaZ za5 zas zba zaD zar zap zbh zbt zbi zaR zaH zaF Option.getD_some Option.getD_none Option.isSome_some Option.isSome_none
theorem bof0_dc (bb cm sm t:Nat) (cs:List Cn) (ss:List SN) (nm:YS) (F:Own):((cs.map (·.n)).Nodup/\∀ c∈cs,∀ e,c.s=some e->∃ x∈ss,x.a.name=e.1/\x.b=e.2)->DC Tryz.prog 69 [.raw (.pointer (some ⟨bb,0,none⟩)), .str nm] (.blk bb [.raw (.map (some cm)), .raw (.map (some sm)), .raw (.pointer (some ⟨t,0,none⟩))] :: .map cm (entM (V.int .i64) pv (kvC cs))::(ownC cs++(ownS ss++[]))++F) fun d G=>(∃ z:Int,((∃ c∈cs,c.n=z/\c.s.map (·.1)=some nm)\/(z = -1/\∀ c∈cs,c.s.map (·.1)≠some nm))/\d = .int .i64 z)/\G=(.blk bb [.raw (.map (some cm)), .raw (.map (some sm)), .raw (.pointer (some ⟨t,0,none⟩))] :: .map cm (entM (V.int .i64) pv (kvC cs))::(ownC cs++(ownS ss++[])))++F:=by
 intro hA
 obtain ⟨hnd,ho⟩:=hA
 refine DC.bodyS (n_:=32) (show Tryz.prog.funcs[69]? = some Tryz.f69 by kernel_rfl) rfl rfl (by rfl) ?_
 simp only [env0,List.append_assoc,List.cons_append,List.nil_append]
 have kw:=ksIs [0,1,4,5,6,11,13,30]
 have ow:=zaf []
 have hlk:True:=trivial
 have hC:True:=trivial
 repeat' (first
  | ((fail_if_success (have zz:=hop));(with_reducible show DW _ _ (Code.region 4 _ _) _ _ _);(obtain ⟨c,hcx,hcn⟩:=kvC_mem (hsub x (by simp)));(have hop:True:=trivial);(rcases zoK c (ho c hcx.1) with ⟨hcs,hlk⟩ | ⟨nm2,b2,hcs,hlk,hy⟩))
  | ((with_reducible apply DW.unitR 5 (r:=rI));(repeat (with_reducible first | refine Out.here ?_ | refine Out.next ?_ | refine Out.skip ?_));(with_reducible refine zqq ?_))
  | ((refine DOp.rangem_ rfl rfl ?_);(repeat (with_reducible first | refine OnM.here ?_ | refine OnM.next ?_ | (refine OnM.inN (by assumption) ?_;with_reducible intro C hC) | (refine OnM.inK (by assumption) ?_;with_reducible intro C hC) | refine OnM.skip ?_));(refine And.intro (by rw [ty_89]) ?_);(with_reducible intro rI);refine zgo ?_)
  | ((refine DOp.entrym_ rfl rfl ?_);(repeat (with_reducible first | refine OnG.here ?_ | refine OnG.next ?_ | refine OnG.skip ?_));(refine ⟨_,rfl,?_⟩);refine zgo ?_)
  | ((refine DOp.nextm_ (t:=0) rfl rfl ?_);(repeat (with_reducible first | refine OnG.here ?_ | refine OnG.next ?_ | refine OnG.skip ?_));(refine zhQ (fun A x C hL=>?_) (fun hL=>?_))<;>(subst hL)<;>(refine zgo ?_))
  | ((with_reducible apply DW.unitE (r:=rI));(repeat (with_reducible first | refine Out.here ?_ | refine Out.next ?_ | refine Out.skip ?_));(with_reducible refine zqq ?_))
  | ((refine DOp.load_ rfl rfl ?_);(repeat (with_reducible first | refine OnB.here ?_ | refine OnB.next ?_ | (refine OnB.inC (by assumption) ?_;with_reducible intro C0) | refine OnB.skip ?_));refine zgo ?_)
  | ((with_reducible refine DW.loopB 0 (X:=CMp×VM) (fun x=>(∀ e∈x.1,e∈kvC cs)/\∀ c∈cs,(c.n,c.b)∈x.1\/c.s.map (·.1)≠some nm) (fun x=>[(1, .str nm),(11, .raw (.pointer (some ⟨rI,0,none⟩)))]) (fun x=>.miter rI cm (entM (V.int .i64) pv (kvC cs)) (entM (V.int .i64) pv x.1) x.2::(ownC cs++(ownS ss++[]))) (fun x=>x.1.length) ((kvC cs,[])) ?_ ?_ ?_);exact (⟨fun _ h=>h,fun c hc=>.inl (List.mem_map.2 ⟨c,hc,rfl⟩)⟩);(exact kxcm);(try simp only [List.append_assoc,List.cons_append,List.nil_append]);refine pl_ ?_;intro ⟨Lf,cur⟩ ⟨hsub,hdone⟩;(try simp only [List.append_assoc,List.cons_append,List.nil_append]);try simp only at hsub hdone)
  | refine g_ ?_
  | ((with_reducible refine And.intro ?_ ?_);(exact zgR))
  | (refine DW.cond (by rfl) ?_ ?_<;>(first | exact i0_ | (intro hb;(try simp only [↓reduceCtorEq,not_true_eq_false,not_false_eq_true,hbs,Int.reduceBEq,Int.reduceBNe,Int.reduceEq] at hb);(try refine zgo ?_))))
  | ((with_reducible refine zaa ?_ ?_)<;>(intro hb;rw [hb];revert hb;(first | exact i0_ | (intro hb;(try simp only [↓reduceCtorEq,not_true_eq_false,not_false_eq_true,hbs,Int.reduceBEq,Int.reduceBNe,Int.reduceEq] at hb);(try refine zgo ?_)))))
  | ((refine Both.imp ?_ ?_)<;>(first | exact i0_ | (intro hb;(try simp only [↓reduceCtorEq,not_true_eq_false,not_false_eq_true,hbs,Int.reduceBEq,Int.reduceBNe,Int.reduceEq] at hb);(try refine zgo ?_))))
  | ((first | refine rn_ ?_ | refine kn_ ?_)<;>(refine zgo ?_))
  | ((first | (refine DOp.rangem_ rfl rfl ?_;(repeat (with_reducible first | refine OnM.here ?_ | refine OnM.next ?_))) | (refine DOp.nextm_ (t:=0) rfl rfl ?_;(repeat (with_reducible first | refine OnG.here ?_ | refine OnG.next ?_))) | (refine DOp.entrym_ rfl rfl ?_;(repeat (with_reducible first | refine OnG.here ?_ | refine OnG.next ?_))))<;>(refine zgo ?_))
  | (refine q_ (sclS_dc _ _ _ _) ?_ (ha:=by exact zgR) (hk:=fun q=>q.1);refine zgo ?_)
  | ((refine on_ ?_);refine zgo ?_)
  | refine f_ ?_
  | with_reducible intro b)
 all_goals first
 | (((refine ⟨(A++C,[(.int .i64 x.1,pv x.2)]),⟨fun e he=>hsub e kxb3,zn9 hnd hdone hcx hcn (of_no hcs)⟩,by (try simp only);simp only [List.length_append,List.length_cons];omega,by simp [Sub,get],?_⟩);((try dsimp only);(simp only [<-ze4]));(exact sub_);done))
 | (((refine ⟨(A++C,[(.int .i64 x.1,pv x.2)]),⟨fun e he=>hsub e kxb3,zn9 hnd hdone hcx hcn (of_ne hcs hb)⟩,by (try simp only);simp only [List.length_append,List.length_cons];omega,by simp [Sub,get],?_⟩);((try dsimp only);(simp only [<-ze4]));(exact sub_);done))
 | (((refine ⟨_,_,le.rfl_,⟨⟨x.1, .inl ⟨c,hcx.1,hcn,by rw [hcs,hb];rfl⟩,rfl⟩,rfl⟩,?_⟩);(exact sub_);done))
 | (((refine ⟨_,_,le.rfl_,⟨⟨-1, .inr ⟨rfl,fun c hc=>(hdone c hc).resolve_left (by simp)⟩,rfl⟩,rfl⟩,?_⟩);(exact sub_);done))
 | (trace_state;fail)
end
theorem zqY (bb:Nat) (s:BN) (nm:YS) (F:Own):BOK s->DC Tryz.prog 69 [.raw (.pointer (some ⟨bb,0,none⟩)), .str nm] ((ownB bb s++[])++F) fun d G=>d = .int .i64 (ofM nm s.pl)/\G=(ownB bb s++[])++F:=fun h=>by
 obtain ⟨cm,sm,t,ts,cs,ss⟩:=s
 refine DC.conv (bof0_dc bb cm sm t cs ss nm (.map sm (entM V.str pv (kvS ss))::(ownT t ts++F)) ⟨h.cn,fun c hc=>(h.co c hc).s⟩) kxbb ?_
 rintro d G ⟨⟨z,hz,rfl⟩,rfl⟩
 refine ⟨_,_,le.of_eq ?_,⟨rfl,rfl⟩,by (simp only [ownB,BN.maps,zad,zai,Cn.own,Cn.cells,Cn.sv,Option.map_none,Option.map_some,List.append_assoc,List.cons_append,List.nil_append,List.append_nil]);exact sub_⟩
 rcases hz with ⟨c,hc,hcn,hcs⟩ | ⟨rfl,hz⟩
 · cases hs:c.s with
   | none=>rw [hs] at hcs;cases hcs
   | some e =>
    rw [hs] at hcs
    obtain ⟨e1,e2⟩:=e
    simp only [Option.map_some,Option.some.injEq] at hcs
    subst hcs
    rw [<-hcn]
    exact congrArg _ (ofM_y h hc hs).symm
 · exact congrArg _ (ofM_n (s:=⟨cm,sm,t,ts,cs,ss⟩) hz).symm
end
section
def zan (kind id:Int) (pr:Bool) (code:Int):Pk:=⟨kind,false,false,0,id,[],[],0,[],false,0,false,[],[],0,false,false,false,[],[],pr,code,[],[]⟩
noncomputable def zbp (n code:Int) (b:Br):Ef×Br:=(andM ⟨outM n [zan 2 0 false code],[],[],[]⟩ (zae n b).1,(zae n b).2)
theorem zqm {s:BN} (h:BOK s) (hz:BSz s.pl) {c:Cn} (hc:c∈s.cs):(zbj c.n s.pl).1.outs=[]/\(zbj c.n s.pl).1.pubs.length<=1/\(zbj c.n s.pl).1.adds=[]/\(zbj c.n s.pl).1.drops.length<=1000000:=by
 have hw:=(h.co c hc).will
 have hcon:=zj9 h hc
 unfold zbj
 rw [hcon]
 obtain ⟨n,b,st,left,bad,hd,sv,kp,cl,will,lv,wv⟩:=c
 cases sv with
 | none=>exact ⟨rfl,hw,rfl,Nat.zero_le _⟩
 | some e =>
  cases cl with
  | true =>
   refine ⟨rfl,hw,rfl,?_⟩
   show (zah e.1 (s.pl.off n)).1.length<=_
   unfold zah
   cases hs:(s.pl.off n).ses e.1 with
   | none=>exact Nat.zero_le _
   | some a =>
    have ha:a∈s.pl.sess:=List.mem_of_find?_eq_some hs
    exact Nat.le_trans (zc9 ..) (by rw [zeA];exact (hz.sub a ha).1)
  | false=>exact ⟨rfl,hw,rfl,Nat.zero_le _⟩
theorem zj5 {s:BN} (h:BOK s) (hz:BSz s.pl) {c:Cn} (hc:c∈s.cs):(zae c.n s.pl).1.outs.length<=1/\(zae c.n s.pl).1.pubs.length<=1/\(zae c.n s.pl).1.adds=[]/\(zae c.n s.pl).1.drops.length<=1000000:=by
 obtain ⟨h1,h2,h3,h4⟩:=zqm h hz hc
 unfold zae andM
 simp only [h1,h3,List.append_nil,List.nil_append,List.length_cons,List.length_nil]
 exact ⟨Nat.le_refl _,h2,trivial,Nat.le_trans (zab _) h4⟩
theorem zgl (l:List Ou):∀ j∈l.map encOu,j.n=4/\j.cs.all V.one=true:=fun j hj=>by obtain ⟨x,_,rfl⟩:=List.mem_map.1 hj;exact ⟨rfl,rfl⟩
theorem zeJ (l:List YS):∀ j∈l.map V.str,j.n=1/\j.cs.all V.one=true:=fun j hj=>by obtain ⟨x,_,rfl⟩:=List.mem_map.1 hj;exact ⟨rfl,rfl⟩
theorem zh3 (kind id:Int) (pr:Bool) (code:Int):PkN (zan kind id pr code):=⟨Nat.zero_le _,Nat.zero_le _,Nat.zero_le _,Nat.zero_le _,Nat.zero_le _,Nat.zero_le _,Nat.zero_le _,Nat.zero_le _,fun k=>by simp [zan];exact Nat.zero_le _,Nat.zero_le _⟩
theorem zjf (pr:Bool) (code:Int):SendK (zan 2 0 pr code):=⟨zh3 _ _ _ _, .inl rfl,by first | rfl | (unfold onlyM zan;simp)⟩
attribute [local irreducible] SN.own ownT ownC ownS ownB zae zbj zaK
attribute [local irreducible] DW SeqD DV DOp DC DVX DVJ idsF usI sortS putM zaj onlyM
theorem zpu (kind id:Int) (pr:Bool) (code n:Int) (F:Own):SendK (zan kind id pr code)->DC Tryz.prog 42 [.int .i64 n, .sl [.agg [.int .i64 kind, .bool false, .bool false, .int .i64 0, .int .i64 id, .str [], .gs (.slice none 0 0) [], .int .i64 0, .str [], .bool false, .int .i64 0, .bool false, .str [], .gs (.slice none 0 0) [], .int .i64 0, .bool false, .bool false, .bool false, .str [], .gs (.slice none 0 0) [], .bool pr, .int .i64 code, .gs (.slice none 0 0) [], .gs (.slice none 0 0) []]]] ([knF,knA]++F) fun d G=>∃ v,d = .ar v (outM n [(zan kind id pr code)]).length/\G = .arr 4 v (cells ((outM n [(zan kind id pr code)]).map encOu))::([knF,knA]++F):=fun h =>
 DC.args (Les.cons le.rfl_ (Les.cons (le.sl1 (Les.cons le.rfl_ (Les.cons le.rfl_ (Les.cons le.rfl_ (Les.cons le.rfl_ (Les.cons le.rfl_ (Les.cons le.rfl_ (Les.cons (le.gs rfl) (Les.cons le.rfl_ (Les.cons le.rfl_ (Les.cons le.rfl_ (Les.cons le.rfl_ (Les.cons le.rfl_ (Les.cons le.rfl_ (Les.cons (le.gs rfl) (Les.cons le.rfl_ (Les.cons le.rfl_ (Les.cons le.rfl_ (Les.cons le.rfl_ (Les.cons le.rfl_ (Les.cons (le.gs rfl) (Les.cons le.rfl_ (Les.cons le.rfl_ (Les.cons (le.gs rfl) (Les.cons (le.gs rfl) (Les.nil)))))))))))))))))))))))))) Les.nil)) (zow n [(zan kind id pr code)] F ⟨by simp,fun k hk=>by obtain rfl:k=0:=(by simpa using hk);exact h⟩)
theorem zol (kind id:Int) (pr:Bool) (code n:Int) (F:Own):SendK (zan kind id pr code)->DC Tryz.prog 42 [.int .i64 n, .sl [.agg [.int .i64 kind, .bool false, .bool false, .int .i64 0, .int .i64 id, .str [], .gs (.slice none 0 0) [], .int .i64 0, .str [], .bool false, .int .i64 0, .bool false, .str [], .gs (.slice none 0 0) [], .int .i64 0, .bool false, .bool false, .bool false, .str [], .gs (.slice none 0 0) [], .bool pr, .int .i64 code, .gs (.slice none 0 0) [], .gs (.slice none 0 0) []]]] ([knF,knA]++F) fun d G=>d = .sl ((outM n [(zan kind id pr code)]).map encOu)/\G=[knF,knA]++F:=fun h =>
 DC.args (Les.cons le.rfl_ (Les.cons (le.sl1 (Les.cons le.rfl_ (Les.cons le.rfl_ (Les.cons le.rfl_ (Les.cons le.rfl_ (Les.cons le.rfl_ (Les.cons le.rfl_ (Les.cons (le.gs rfl) (Les.cons le.rfl_ (Les.cons le.rfl_ (Les.cons le.rfl_ (Les.cons le.rfl_ (Les.cons le.rfl_ (Les.cons le.rfl_ (Les.cons (le.gs rfl) (Les.cons le.rfl_ (Les.cons le.rfl_ (Les.cons le.rfl_ (Les.cons le.rfl_ (Les.cons le.rfl_ (Les.cons (le.gs rfl) (Les.cons le.rfl_ (Les.cons le.rfl_ (Les.cons (le.gs rfl) (Les.cons (le.gs rfl) (Les.nil)))))))))))))))))))))))))) Les.nil)) (zmk n [(zan kind id pr code)] F ⟨by simp,fun k hk=>by obtain rfl:k=0:=(by simpa using hk);exact h⟩)
theorem zcL {p:Prop} (h:p:=by first | exact sv | exact hsd | exact ⟨h1,⟨h2,h3⟩,h4⟩ | exact ⟨⟨rfl,rfl⟩,⟨hol,by omega,by omega,rfl,by simp⟩,⟨by (rw [List.length_map];omega),by (rw [List.length_map];omega),by (rw [List.length_map];omega),by omega⟩,zgl _,zfl _,zeJ _⟩ | fail):p:=h
theorem zl6 (bb:Nat) (m:Int) (s:BN) (c:Cn) (n code:Int) (F:Own):(BOK s/\(c∈s.cs/\c.n=n)/\BSz s.pl)->DC Tryz.prog 81 [.raw (.pointer (some ⟨bb,0,none⟩)), .int .i64 n, .int .i64 code] (loose::knF::knA::knM m::(ownB bb s++[])++F) fun d G=>∃ (w1 w2 w3 w4:Value) (s':BN),(BOK s'/\s'.pl=(zae n s.pl).2)/\d = .agg [.ar w1 ((outM n [zan 2 0 false code]).length+(zae n s.pl).1.outs.length), .ar w2 (zae n s.pl).1.pubs.length, .ar w3 (zae n s.pl).1.adds.length, .ar w4 (zaK ([]++(zae n s.pl).1.drops)).length]/\G = .arr 4 w1 (cells ((outM n [zan 2 0 false code]).map encOu)++cells ((zae n s.pl).1.outs.map encOu)) :: .arr 4 w2 (cells ((zae n s.pl).1.pubs.map encM)) :: .arr 1 w3 (cells ((zae n s.pl).1.adds.map V.str)) :: .arr 1 w4 ((zaK ([]++(zae n s.pl).1.drops)).map V.str)::loose::knF::knA::knM m::(ownB bb s'++F):=by
 intro hA
 obtain ⟨h1,⟨h2,h3⟩,h4⟩:=hA
 refine DC.bodyS (n_:=19) (show Tryz.prog.funcs[81]? = some Tryz.f81 by kernel_rfl) rfl rfl (by rfl) ?_
 simp only [env0,List.append_assoc,List.cons_append,List.nil_append]
 have kw:=ksIs [0,1,2,6,7]
 have ow:=zaf [7]
 have rw_:=rsIs [.cell 6 38]
 have hsd:SendK (zan 2 0 false code):=zjf _ _
 have hol:(outM n [zan 2 0 false code]).length<=1000000000:=Nat.le_trans (zaI ..) (by simp)
 have hsn:=zj5 h1 h4 h2
 rw [h3] at hsn
 obtain ⟨hn1,hn2,hn3,hn4⟩:=hsn
 have hn5:(zae n s.pl).1.adds.length=0:=by rw [hn3];rfl
 repeat' (first
  | ((fail_if_success (have zz:=hown));(with_reducible show DW _ _ (Code.region 2 _ _) _ _ _);(refine DW.own0P 4 eb 1 kxbg rfl ?_);(simp only [List.set_cons_succ,List.set_cons_zero]);(refine DW.own0P 1 eb 2 kxbg rfl ?_);(simp only [List.set_cons_succ,List.set_cons_zero]);(refine DW.own0P 1 eb 3 kxbg rfl ?_);(simp only [List.set_cons_succ,List.set_cons_zero]);(have hown:True:=trivial))
  | refine g_ ?_
  | ((with_reducible refine And.intro ?_ ?_);(exact zcL))
  | (refine DW.cond (by rfl) ?_ ?_<;>(first | exact i0_ | (refine ic_ ?_;intro hb)))
  | ((with_reducible refine zaa ?_ ?_)<;>(intro hb;rw [hb];revert hb;(first | exact i0_ | (refine i_ ?_;intro hb))))
  | refine r_ ?_
  | refine k_ ?_
  | (refine p_ (zpu _ _ _ _ _ _) ?_ (ha:=by exact zcL);rintro d H1 ⟨v1,rfl,rfl⟩<;>refine s_ ?_)
  | (refine p_ (zeC (c:=c) _ _ _ _ _) ?_ (ha:=by exact zcL);rintro d H1 ⟨s2,⟨hs2,hp2⟩,rfl,rfl⟩<;>refine s_ ?_)
  | (refine p_ (zcb (D1:=[]) (D2:=(zae n s.pl).1.drops) _ _ _ _ _ _ _ _ _ _ _ _ _ _ _ _ _ _) ?_ (ha:=by exact zcL);rintro d H1 ⟨w1,w2,w3,w4,rfl,rfl⟩<;>refine s_ ?_)
  | refine o_ ?_
  | refine f_ ?_
  | ((fail_if_success (have zz:=rb));with_reducible intro rb)
  | ((fail_if_success (have zz:=eb));with_reducible intro eb)
  | with_reducible intro b)
 all_goals first
 | (((refine ⟨_,_,le.rfl_,⟨w1,w2,w3,w4,s2,⟨hs2,hp2⟩,rfl,rfl⟩,?_⟩);(exact sub_);done))
 | (trace_state;fail)
theorem zi2 (bb:Nat) (m:Int) (s:BN) (c:Cn) (n code:Int) (F:Own):(BOK s/\(c∈s.cs/\c.n=n)/\BSz s.pl)->DC Tryz.prog 81 [.raw (.pointer (some ⟨bb,0,none⟩)), .int .i64 n, .int .i64 code] ((loose::knF::knA::knM m::(ownB bb s++[]))++F) fun d G=>∃ s':BN,(BOK s'/\s'.pl=(zbp n code s.pl).2)/\d = .agg [.sl ((zbp n code s.pl).1.outs.map encOu), .sl ((zbp n code s.pl).1.pubs.map encM), .sl ((zbp n code s.pl).1.adds.map V.str), .sl ((zbp n code s.pl).1.drops.map V.str)]/\G=loose::knF::knA::knM m::(ownB bb s'++F):=fun h =>
 DC.frzE (X:=BN) (Q:=fun s'=>BOK s'/\s'.pl=(zbp n code s.pl).2) (l1:=fun _=>(zbp n code s.pl).1.outs.map encOu) (l2:=fun _=>(zbp n code s.pl).1.pubs.map encM) (l3:=fun _=>(zbp n code s.pl).1.adds.map V.str) (l4:=fun _=>(zbp n code s.pl).1.drops.map V.str) (L:=fun s'=>loose::knF::knA::knM m::(ownB bb s'++F))
  (fun _ j hj=>(zgl _ j hj).1) (fun _=>mg_n _) (fun _=>st_n _) (fun _=>st_n _)
  ((zl6 bb m s c n code F h).mono fun d G ⟨w1,w2,w3,w4,s',hq,hd,hG⟩=>⟨w1,w2,w3,w4,s',hq,by rw [hd];unfold zbp andM;simp only [List.length_map,List.length_append,List.nil_append],by rw [hG];unfold zbp andM;simp only [List.map_append,zb2,zb3,List.nil_append]⟩)
end
section
theorem zpI (c:Cn) (H:Own):ownC [c]++H=c.own++H:=by show (c.own++[])++H=_;rw [List.append_nil]
theorem BOK.opened {s:BN} (h:BOK s) {n now:Int} (hn:0<=n/\n<16) (hc:s.pl.conn n=none) (cb st:Nat):BOK { s with cs:=s.cs++[(⟨n,cb,st,[],0,zbf now,none,0,false,[], .gs (.slice none 0 0) [], .gs (.slice none 0 0) []⟩:Cn)] }:=by
 have hno:∀ c∈s.cs,c.n≠n:=fun c hc1 e=>by rw [<-e,zj9 h hc1] at hc;cases hc
 refine ⟨h.t,?_,fun c hc1=>?_,h.sn,h.so,h.sq,fun c hc1 d hd e e' he he' hee=>?_⟩
 · show ((s.cs++[(⟨n,cb,st,[],0,zbf now,none,0,false,[], .gs (.slice none 0 0) [], .gs (.slice none 0 0) []⟩:Cn)]).map (·.n)).Nodup
   rw [List.map_append,List.nodup_append]
   refine ⟨h.cn,by simp,fun a ha b hb e=>?_⟩
   obtain ⟨c,hc1,rfl⟩:=List.mem_map.1 ha
   simp only [List.map_cons,List.map_nil,List.mem_cons,List.not_mem_nil,or_false] at hb
   exact hno c hc1 (e.trans hb)
 · rcases List.mem_append.1 hc1 with h1 | h1
   · exact h.co c h1
   · rw [List.mem_singleton.1 h1]
     exact ⟨hn,zdJ now,⟨by show (-1000000000:Int)<=0;omega,by show (0:Int)<=1000000000;omega⟩,Nat.zero_le _,(fun _ h=>nomatch h), .inl ⟨rfl,rfl⟩, .inl ⟨rfl,rfl⟩,(fun _ h=>nomatch h)⟩
 · rcases List.mem_append.1 hc1 with h1 | h1
   · rcases List.mem_append.1 hd with h2 | h2
     · exact h.sd c h1 d h2 e e' he he' hee
     · rw [List.mem_singleton.1 h2] at he';cases he'
   · rw [List.mem_singleton.1 h1] at he;cases he
attribute [local irreducible] SN.own ownT ownC ownS
attribute [local irreducible] DW SeqD DV DOp DC DVX DVJ idsF usI sortS putM zaj onlyM
theorem zfZ (bb:Nat) (s:BN) (n now:Int) (F:Own):(BOK s/\(0<=n/\n<16)/\s.pl.conn n=none)->DC Tryz.prog 13 [.raw (.pointer (some ⟨bb,0,none⟩)), .int .i64 n, .int .i64 now] ((ownB bb s++[])++F) fun d G=>∃ s':BN,(BOK s'/\s'.pl=zcX n now s.pl)/\d = .int .i64 0/\G=ownB bb s'++F:=by
 rintro ⟨h,hn,hc⟩
 have hlk:lookA n (kvC s.cs)=none:=by
  have:=zg9 s n
  rw [hc] at this
  cases h1:lookA n (kvC s.cs) with
  | none=>rfl
  | some b=>rw [h1] at this;cases this
 have hop:zcX n now s.pl={ s.pl with conns:=s.pl.conns++[newC n now] }:=by
  unfold zcX;rw [if_neg];rw [hc];simp;omega
 rw [hop]
 have hok:=fun cb st=>h.opened (now:=now) hn hc cb st
 obtain ⟨cm,sm,t,ts,cs,ss⟩:=s
 refine DC.conv (zq8 bb cm sm t (kvC cs) n now (.map sm (entM V.str pv (kvS ss))::(ownC cs++(ownS ss++(ownT t ts++F)))) ⟨hlk,hn⟩) kxbb ?_
 rintro d G ⟨cb,st,rfl,rfl⟩
 rw [zc2 hlk]
 refine ⟨_,_,le.rfl_,⟨(⟨cm,sm,t,ts,cs++[(⟨n,cb,st,[],0,zbf now,none,0,false,[], .gs (.slice none 0 0) [], .gs (.slice none 0 0) []⟩:Cn)],ss⟩:BN),⟨hok cb st,?_⟩,rfl,rfl⟩,?_⟩
 · unfold BN.pl;simp only [List.map_append,List.map_cons,List.map_nil];rfl
 · have e1:kvC cs++[(n,cb)]=kvC (cs++[(⟨n,cb,st,[],0,zbf now,none,0,false,[], .gs (.slice none 0 0) [], .gs (.slice none 0 0) []⟩:Cn)]):=by unfold kvC;rw [List.map_append];rfl
   rw [e1]
   (simp only [ownB,BN.maps,zdd,zpI,Cn.own,Cn.cells,Cn.sv,Option.map_none,List.append_assoc,List.cons_append,List.nil_append,List.append_nil])
   exact sub_
theorem znR (bb:Nat) (s:BN) (n:Int) (F:Own):BOK s->DC Tryz.prog 17 [.raw (.pointer (some ⟨bb,0,none⟩)), .int .i64 n] ((ownB bb s++[])++F) fun d G=>d = .str (zcu n s.pl)/\G=(ownB bb s++[])++F:=fun h=>by
 cases hc:s.pl.conn n with
 | none =>
  have hlk:lookA n (kvC s.cs)=none:=by
   have:=zg9 s n
   rw [hc] at this
   cases h1:lookA n (kvC s.cs) with
   | none=>rfl
   | some b=>rw [h1] at this;cases this
  have e1:zcu n s.pl=[]:=by unfold zcu;rw [hc];rfl
  rw [e1]
  obtain ⟨cm,sm,t,ts,cs,ss⟩:=s
  refine DC.conv (cliN_dc bb cm sm t (kvC cs) n (.map sm (entM V.str pv (kvS ss))::(ownC cs++(ownS ss++(ownT t ts++F)))) hlk) kxbb ?_
  rintro d G ⟨rfl,rfl⟩
  exact ⟨_,_,le.rfl_,⟨rfl,rfl⟩,by (simp only [ownB,BN.maps,zad,zai,Cn.own,Cn.cells,Cn.sv,Option.map_none,Option.map_some,List.append_assoc,List.cons_append,List.nil_append,List.append_nil]);exact sub_⟩
 | some p =>
  obtain ⟨c,hcm,rfl,rfl⟩:=zgD hc
  obtain ⟨l1,l2,hs,h1,h2⟩:=zc0 h.cn hcm
  have ho:=h.co c hcm
  have e1:zcu c.n s.pl=(c.s.map (·.1)).getD []:=by unfold zcu;rw [hc];rfl
  rw [e1]
  obtain ⟨n,b,st,left,bad,hd,sv,kp,cl,will,lv,wv⟩:=c
  obtain ⟨cm,sm,t,ts,cs,ss⟩:=s
  simp only at hs
  subst hs
  have hlk:=ze6 (l2:=l2) h1
  simp only at hlk ⊢
  cases sv with
  | none =>
   refine DC.conv (cli0_dc bb cm sm t (kvC (l1++(⟨n,b,st,left,bad,hd,none,kp,cl,will,lv,wv⟩:Cn)::l2)) n b st hd kp cl wv (.map sm (entM V.str pv (kvS ss)) :: .blk st [lv, .int .i64 bad]::(ownC l1++(ownC l2++(ownS ss++(ownT t ts++F))))) hlk) kxbb ?_
   rintro d G ⟨rfl,rfl⟩
   exact ⟨_,_,le.rfl_,⟨rfl,rfl⟩,by (simp only [ownB,BN.maps,zad,zai,Cn.own,Cn.cells,Cn.sv,Option.map_none,Option.map_some,List.append_assoc,List.cons_append,List.nil_append,List.append_nil]);exact sub_⟩
  | some e =>
   obtain ⟨y,hy,hy1,hy2⟩:=ho.s e rfl
   obtain ⟨e1,e2⟩:=e
   simp only at hy1 hy2
   subst hy1;subst hy2
   obtain ⟨m1,m2,hss,k1,k2⟩:=zc0 h.sn hy
   simp only at hss
   subst hss
   refine DC.conv (cliS_dc bb cm sm t (kvC (l1++(⟨n,b,st,left,bad,hd,some (y.a.name,y.b),kp,cl,will,lv,wv⟩:Cn)::l2)) n b st hd kp cl wv y (.map sm (entM V.str pv (kvS (m1++y::m2))) :: .blk st [lv, .int .i64 bad]::(ownC l1++(ownC l2++(ownS m1++(ownS m2++(ownT t ts++F)))))) hlk) kxbb ?_
   rintro d G ⟨rfl,rfl⟩
   exact ⟨_,_,le.rfl_,⟨rfl,rfl⟩,by (simp only [ownB,BN.maps,zad,zai,Cn.own,Cn.cells,Cn.sv,Option.map_none,Option.map_some,List.append_assoc,List.cons_append,List.nil_append,List.append_nil]);exact sub_⟩
end
end Go.Proofs.YtgekknefphagbaaGreatDoor
