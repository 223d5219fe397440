/- Sessions: a message flies, what waits flies, a message is sent. -/
import Derived.Test.YtgekknefphagbaaGreatDoorJbx
import Derived.KernelRfl
import Derived.Test.YtgekknefphagbaaGreatDoorCzx
import Derived.Test.YtgekknefphagbaaGreatDoorEqx
import Derived.Shelf.Sort.Plain
import Derived.Shelf.Slices.In.SortNone
import Derived.Shelf.Slices.CompactI
import Derived.Lib.RowBridge
namespace Go.Proofs.YtgekknefphagbaaGreatDoor
open Go.RowKit
set_option linter.unusedSimpArgs false
set_option linter.unusedVariables false
set_option linter.unusedSectionVars false
set_option maxHeartbeats 4000000
set_option maxRecDepth 100000
section
abbrev LFl:=List Fl
abbrev LMg:=List Mg
abbrev LPk:=List Pk
theorem zgG {now:Int} {q:List Mg} {a:SA} (h:¬ a.fly.length<4):zb0 now q a={ a with q:=q }/\zb8 now q a=[]:=by
 cases q with
 | nil=>exact ⟨rfl,rfl⟩
 | cons m q=>unfold zb0 zb8;rw [if_neg h,if_neg h];exact ⟨rfl,rfl⟩
theorem zlK {now:Int} {a:SA}:zb0 now [] a={ a with q:=[] }/\zb8 now [] a=[]:=⟨rfl,rfl⟩
theorem zon {now:Int} {m:Mg} {q:List Mg} {a:SA} (h:a.fly.length<4):zb0 now (m::q) a=zb0 now q (zfv now m a)/\zb8 now (m::q) a=pubM m (zgL a) false::zb8 now q (zfv now m a):=by
 conv=>lhs;lhs;unfold zb0
 conv=>rhs;lhs;unfold zb8
 rw [if_pos h,if_pos h];exact ⟨rfl,rfl⟩
theorem znk {fl:List Fl} (t:Int) (h:fl.length<=1000):1<=zbv (idsF fl) t/\zbv (idsF fl) t<=65535:=(zjL t (by rw [zfB];omega)).2
attribute [local irreducible] DW SeqD DV DOp DC DVX DVJ zbv zbm idsF usI zb0 zb8
theorem zbJ {p:Prop} (h:p:=by first | exact sv | (refine ⟨?_,?_⟩<;>omega) | (refine ⟨?_,?_,fun j _=>⟨rfl,rfl⟩⟩<;>omega) | fail):p:=h
section
attribute [local push_cast 2000] zbN zfB
theorem zp4 (b sm ib um qb gm:Nat) (fv:Value) (nm:YS) (tk:Int) (fl:List Fl) (mt mp:YS) (mq:Int) (mr:Bool) (now:Int) (F:Own):(fl.length<=100/\mp.length<=100000/\0<=tk/\tk<=65535)->DC Tryz.prog 126 [.raw (.pointer (some ⟨b,0,none⟩)), .agg [.str mt, .sl (mp.map u8), .int .i64 mq, .bool mr], .int .i64 now] ([.blk b [.str nm, .raw (.map (some sm)), .raw (.pointer (some ⟨ib,0,none⟩)), .ar fv fl.length, .raw (.pointer (some ⟨qb,0,none⟩)), .raw (.map (some gm))], .blk ib [.raw (.map (some um)), .int .i64 65535, .int .i64 tk], .map um (entM (V.int .i64) V.bool (usI (idsF fl))), .arr 7 fv (cells (fl.map encF))]++F) fun d G=>∃ fv',d = .agg [.int .i64 (pubM (⟨mt,mp,mq,mr⟩:Mg) (zbv (idsF fl) tk) false).kind, .bool (pubM (⟨mt,mp,mq,mr⟩:Mg) (zbv (idsF fl) tk) false).dup, .bool (pubM (⟨mt,mp,mq,mr⟩:Mg) (zbv (idsF fl) tk) false).retain, .int .i64 (pubM (⟨mt,mp,mq,mr⟩:Mg) (zbv (idsF fl) tk) false).qos, .int .i64 (pubM (⟨mt,mp,mq,mr⟩:Mg) (zbv (idsF fl) tk) false).id, .str (pubM (⟨mt,mp,mq,mr⟩:Mg) (zbv (idsF fl) tk) false).topic, .sl ((pubM (⟨mt,mp,mq,mr⟩:Mg) (zbv (idsF fl) tk) false).payload.map u8), .int .i64 (pubM (⟨mt,mp,mq,mr⟩:Mg) (zbv (idsF fl) tk) false).level, .str (pubM (⟨mt,mp,mq,mr⟩:Mg) (zbv (idsF fl) tk) false).client, .bool (pubM (⟨mt,mp,mq,mr⟩:Mg) (zbv (idsF fl) tk) false).clean, .int .i64 (pubM (⟨mt,mp,mq,mr⟩:Mg) (zbv (idsF fl) tk) false).keep, .bool (pubM (⟨mt,mp,mq,mr⟩:Mg) (zbv (idsF fl) tk) false).hasWill, .str (pubM (⟨mt,mp,mq,mr⟩:Mg) (zbv (idsF fl) tk) false).wtopic, .sl ((pubM (⟨mt,mp,mq,mr⟩:Mg) (zbv (idsF fl) tk) false).wpay.map u8), .int .i64 (pubM (⟨mt,mp,mq,mr⟩:Mg) (zbv (idsF fl) tk) false).wqos, .bool (pubM (⟨mt,mp,mq,mr⟩:Mg) (zbv (idsF fl) tk) false).wretain, .bool (pubM (⟨mt,mp,mq,mr⟩:Mg) (zbv (idsF fl) tk) false).hasUser, .bool (pubM (⟨mt,mp,mq,mr⟩:Mg) (zbv (idsF fl) tk) false).hasPass, .str (pubM (⟨mt,mp,mq,mr⟩:Mg) (zbv (idsF fl) tk) false).user, .sl ((pubM (⟨mt,mp,mq,mr⟩:Mg) (zbv (idsF fl) tk) false).pass.map u8), .bool (pubM (⟨mt,mp,mq,mr⟩:Mg) (zbv (idsF fl) tk) false).present, .int .i64 (pubM (⟨mt,mp,mq,mr⟩:Mg) (zbv (idsF fl) tk) false).code, .sl ((pubM (⟨mt,mp,mq,mr⟩:Mg) (zbv (idsF fl) tk) false).subs.map encU), .sl ((pubM (⟨mt,mp,mq,mr⟩:Mg) (zbv (idsF fl) tk) false).codes.map (V.int .i64))]/\G = .blk b [.str nm, .raw (.map (some sm)), .raw (.pointer (some ⟨ib,0,none⟩)), .ar fv' (fl.length+1), .raw (.pointer (some ⟨qb,0,none⟩)), .raw (.map (some gm))] :: .blk ib [.raw (.map (some um)), .int .i64 65535, .int .i64 (zbv (idsF fl) tk)] :: .map um (entM (V.int .i64) V.bool (usI (idsF (fl++[(⟨(⟨mt,mp,mq,mr⟩:Mg),zbv (idsF fl) tk,zbm now,false⟩:Fl)])))) :: .arr 7 fv' (cells ((fl++[(⟨(⟨mt,mp,mq,mr⟩:Mg),zbv (idsF fl) tk,zbm now,false⟩:Fl)]).map encF))::F:=by
 intro hA
 obtain ⟨hfl,hmp,htk0,htk1⟩:=hA
 refine DC.bodyS (n_:=38) (show Tryz.prog.funcs[126]? = some Tryz.f126 by kernel_rfl) rfl rfl (by rfl) ?_
 simp only [env0,List.cons_append,List.nil_append]
 have kw:=ksIs [0,1,2,4,6,7]
 have ow:=zaf [4]
 have dw3:=drIs 3 [11,14] [4,5,8]
 have rw_:=rsIs [.cell 6 29]
 have hil:=zfB fl
 repeat' (first
  | refine g_ ?_
  | ((with_reducible refine And.intro ?_ ?_);(exact zbJ))
  | (refine DW.cond (by rfl) ?_ ?_<;>(first | exact i0_ | (refine ic_ ?_;intro hb)))
  | ((with_reducible first | refine zaa ?_ ?_ | refine zai ?_ ?_)<;>(intro hb;rw [hb];revert hb;(first | exact i0_ | (refine i_ ?_;intro hb))))
  | refine r_ ?_
  | refine d_ ?_
  | refine k_ ?_
  | ((refine dm_ ?_);(first | ((first | refine v_ (zbC _ _) ?_ (ha:=by exact zbJ) | refine v_ (zfx _ _) ?_ (ha:=by exact zbJ) | refine v_ (zh6 _ _ _ _ _ _ _) ?_ (ha:=by exact zbJ)))))
  | refine vo_ ?_
  | (refine p_ (zna _ _ _ _ _) ?_ (ha:=by exact zbJ);rintro d H1 ⟨rfl,rfl⟩<;>refine s_ ?_)
  | ((first | refine q_ (zbC _ _) ?_ (ha:=by exact zbJ) | refine q_ (zfx _ _) ?_ (ha:=by exact zbJ) | refine q_ (zh6 _ _ _ _ _ _ _) ?_ (ha:=by exact zbJ)))
  | refine o_ ?_
  | refine f_ ?_
  | refine vm_ ?_
  | ((fail_if_success (have zz:=b1));with_reducible intro b1)
  | ((fail_if_success (have zz:=b2));with_reducible intro b2)
  | ((fail_if_success (have zz:=v3));with_reducible intro v3)
  | with_reducible intro b)
 all_goals first
 | ((have e1:=fl_snoc fl (⟨(⟨mt,mp,mq,mr⟩:Mg),zbv (idsF fl) tk,zbm now,false⟩:Fl));(simp only at e1);(rw [zmf,<-e1]);refine ⟨_,_,le.rfl_,⟨v3,rfl,rfl⟩,?_⟩;(exact sub_);done)
 | (trace_state;fail)
end
theorem zcX {p:Prop} (h:p:=by first | exact sv | (have hm1:=hqm mm List.mem_cons_self;refine ⟨?_,hm1.pay,?_,?_⟩<;>omega) | (refine ⟨?_,?_,fun _ _=>rfl⟩<;>omega) | fail):p:=h
section
attribute [local push_cast 2000] zbN
theorem zmI (b sm ib um qb gm:Nat) (fv qv:Value) (lost:Int) (nm:YS) (sb:List (YS×Int)) (tk:Int) (fl:List Fl) (q:List Mg) (got:List Int) (now:Int) (F:Own):((fl.length<=100/\0<=tk/\tk<=65535/\q.length<=1000)/\∀ m∈q,MgN m)->DC Tryz.prog 149 [.raw (.pointer (some ⟨b,0,none⟩)), .int .i64 now] ([.blk b [.str nm, .raw (.map (some sm)), .raw (.pointer (some ⟨ib,0,none⟩)), .ar fv fl.length, .raw (.pointer (some ⟨qb,0,none⟩)), .raw (.map (some gm))], .blk ib [.raw (.map (some um)), .int .i64 65535, .int .i64 tk], .map um (entM (V.int .i64) V.bool (usI (idsF fl))), .arr 7 fv (cells (fl.map encF)), .blk qb [.gs qv (q.map encM), .int .i64 8, .int .i64 lost], .tail 4 qv]++F) fun d G=>∃ (a2:SA) (fv2 qv2:Value),a2=zb0 now q (⟨nm,sb,tk,fl,q,got⟩:SA)/\d = .sl ((zb8 now q (⟨nm,sb,tk,fl,q,got⟩:SA)).map zc5)/\G = .blk b [.str nm, .raw (.map (some sm)), .raw (.pointer (some ⟨ib,0,none⟩)), .ar fv2 a2.fly.length, .raw (.pointer (some ⟨qb,0,none⟩)), .raw (.map (some gm))] :: .blk ib [.raw (.map (some um)), .int .i64 65535, .int .i64 a2.taken] :: .map um (entM (V.int .i64) V.bool (usI (idsF a2.fly))) :: .arr 7 fv2 (cells (a2.fly.map encF)) :: .blk qb [.gs qv2 (a2.q.map encM), .int .i64 8, .int .i64 lost] :: .tail 4 qv2::F:=by
 intro hA
 obtain ⟨⟨hfl,htk0,htk1,hql⟩,hqm0⟩:=hA
 refine DC.bodyS (n_:=32) (show Tryz.prog.funcs[149]? = some Tryz.f149 by kernel_rfl) rfl rfl (by rfl) ?_
 simp only [env0,List.cons_append,List.nil_append]
 have kw:=ksIs [0,1,4,5,6,7,13,23]
 have ow:=zaf []
 refine DW.tail0 24 ?_
 repeat' (first
  | ((with_reducible refine DW.loopB 0 (X:=LFl×LMg×Int×Value×Value×Value×LPk) (fun x=>(x.1.length<=100/\0<=x.2.2.1/\x.2.2.1<=65535/\x.2.2.2.2.2.2.length+x.2.1.length<=1000)/\(∀ m∈x.2.1,MgN m)/\zb0 now x.2.1 (⟨nm,sb,x.2.2.1,x.1,q,got⟩:SA)=zb0 now q (⟨nm,sb,tk,fl,q,got⟩:SA)/\x.2.2.2.2.2.2++zb8 now x.2.1 (⟨nm,sb,x.2.2.1,x.1,q,got⟩:SA)=zb8 now q (⟨nm,sb,tk,fl,q,got⟩:SA)) (fun x=>[(0, .raw (.pointer (some ⟨b,0,none⟩))),(1, .int .i64 now),(5, .gs x.2.2.2.2.2.1 (x.2.2.2.2.2.2.map zc5))]) (fun x=>(.tail 24 x.2.2.2.2.2.1 :: .blk b [.str nm, .raw (.map (some sm)), .raw (.pointer (some ⟨ib,0,none⟩)), .ar x.2.2.2.1 x.1.length, .raw (.pointer (some ⟨qb,0,none⟩)), .raw (.map (some gm))] :: .blk ib [.raw (.map (some um)), .int .i64 65535, .int .i64 x.2.2.1] :: .map um (entM (V.int .i64) V.bool (usI (idsF x.1))) :: .arr 7 x.2.2.2.1 (cells (x.1.map encF)) :: .blk qb [.gs x.2.2.2.2.1 (x.2.1.map encM), .int .i64 8, .int .i64 lost] :: .tail 4 x.2.2.2.2.1::([]:Own))) (fun x=>x.2.1.length) ((fl,q,tk,fv,qv, .slice none 0 0,[])) ?_ ?_ ?_);exact (⟨⟨hfl,htk0,htk1,by (try simp only [List.length_nil]);omega⟩,hqm0,rfl,rfl⟩);(simp [Sub,get,zaW]<;>fail);(try simp only [List.cons_append,List.nil_append]);refine pl_ ?_;intro ⟨fl2,q2,tk2,fv2,qv2,v,out⟩ ⟨⟨hf2,ht0,ht1,ho2⟩,hqm,hda,hdp⟩;(try simp only [List.cons_append,List.nil_append]);(try simp only at hf2 ht0 ht1 ho2 hqm hda hdp);have htr:=znk (fl:=fl2) tk2 (by omega);by_cases hf4:fl2.length<4;(rcases q2 with _ | ⟨mm,q2⟩);rotate_left 2;(rcases q2 with _ | ⟨mm,q2⟩);rotate_left 2)
  | refine g_ ?_
  | ((with_reducible refine And.intro ?_ ?_);(exact zcX))
  | (refine DW.cond (by rfl) ?_ ?_<;>(first | exact i0_ | (refine ic_ ?_;intro hb)))
  | ((with_reducible refine zaa ?_ ?_)<;>(intro hb;rw [hb];revert hb;(first | exact i0_ | (refine i_ ?_;intro hb))))
  | refine r_ ?_
  | refine k_ ?_
  | (refine p_ (qpop_dc _ _ _ _ _ _) ?_ (ha:=by exact zcX);rintro d H1 ⟨qv3,rfl,rfl⟩<;>refine s_ ?_)
  | (refine q_ (zpr _ _ _ _) ?_ (ha:=by exact zcX))
  | (refine p_ (zp4 _ _ _ _ _ _ _ _ _ _ _ _ _ _ _ _) ?_ (ha:=by exact zcX);rintro d H1 ⟨fv3,rfl,rfl⟩<;>refine s_ ?_)
  | refine o_ ?_
  | refine f_ ?_
  | ((fail_if_success (have zz:=b1));with_reducible intro b1)
  | ((fail_if_success (have zz:=v3));with_reducible intro v3)
  | with_reducible intro b)
 all_goals first
 | ((have e:zb0 now [] (⟨nm,sb,tk2,fl2,q,got⟩:SA)={ (⟨nm,sb,tk2,fl2,q,got⟩:SA) with q:=[] }/\zb8 now [] (⟨nm,sb,tk2,fl2,q,got⟩:SA)=[]:=zlK);(rw [e.1] at hda);(rw [e.2,List.append_nil] at hdp);refine ⟨_,_,le.gs ?_,⟨⟨nm,sb,tk2,fl2,[],got⟩,fv2,qv2,?_,rfl,rfl⟩,?_⟩;(focus (rw [hdp]));(focus (rw [<-hda]));(try simp only [List.map_nil,List.map_cons]);(exact sub_);done)
 | ((have e:zb0 now [] (⟨nm,sb,tk2,fl2,q,got⟩:SA)={ (⟨nm,sb,tk2,fl2,q,got⟩:SA) with q:=[] }/\zb8 now [] (⟨nm,sb,tk2,fl2,q,got⟩:SA)=[]:=zgG hf4);(rw [e.1] at hda);(rw [e.2,List.append_nil] at hdp);refine ⟨_,_,le.gs ?_,⟨⟨nm,sb,tk2,fl2,[],got⟩,fv2,qv2,?_,rfl,rfl⟩,?_⟩;(focus (rw [hdp]));(focus (rw [<-hda]));(try simp only [List.map_nil,List.map_cons]);(exact sub_);done)
 | ((have e:zb0 now (mm::q2) (⟨nm,sb,tk2,fl2,q,got⟩:SA)={ (⟨nm,sb,tk2,fl2,q,got⟩:SA) with q:=(mm::q2) }/\zb8 now (mm::q2) (⟨nm,sb,tk2,fl2,q,got⟩:SA)=[]:=zgG hf4);(rw [e.1] at hda);(rw [e.2,List.append_nil] at hdp);refine ⟨_,_,le.gs ?_,⟨⟨nm,sb,tk2,fl2,(mm::q2),got⟩,fv2,qv2,?_,rfl,rfl⟩,?_⟩;(focus (rw [hdp]));(focus (rw [<-hda]));(try simp only [List.map_nil,List.map_cons]);(exact sub_);done)
 | ((obtain ⟨e1,e2⟩:=zon (now:=now) (m:=mm) (q:=q2) (a:=(⟨nm,sb,tk2,fl2,q,got⟩:SA)) hf4);(rw [e1] at hda);(rw [e2] at hdp);refine ⟨(fl2++[⟨⟨mm.topic,mm.pay,mm.qos,mm.retain⟩,zbv (idsF fl2) tk2,zbm now,false⟩],q2,zbv (idsF fl2) tk2,fv3,qv3,v3,out++[pubM mm (zbv (idsF fl2) tk2) false]),⟨⟨?_,?_,?_,?_⟩,(fun m hm=>hqm m (List.mem_cons_of_mem _ hm)),?_,?_⟩,?_,?_,?_⟩;(focus ((try simp only [List.length_append,List.length_cons,List.length_nil]);omega));(focus ((try simp only);omega));(focus ((try simp only);omega));(focus ((try simp only [List.length_append,List.length_cons,List.length_nil] at ho2 ⊢);omega));(focus ((try dsimp only);exact hda));(focus ((try dsimp only);rw [List.append_assoc];exact hdp));(focus (simp));(focus (simp [Sub,get,zc5,pubM]));((try simp only [List.length_append,List.length_cons,List.length_nil,Nat.zero_add]);(exact sub_));done)
 | (trace_state;fail)
end
end
section
theorem zht {T:Type} [Inhabited T] {enc:T->V} {s:Nat} (hs:∀ x,(enc x).cs.length=s):∀ (l:List T) (k:Nat),k<l.length->List.take s (List.drop (k * s) (cells (l.map enc)))=(enc (l.getD k default)).cs
 | [],k,h=>absurd h (Nat.not_lt_zero _)
 | x::l,0,_=>by rw [Nat.zero_mul,List.drop_zero,List.map_cons,zaR,<-hs x,List.take_left'];rfl;rfl
 | x::l,k+1,h=>by
  rw [List.map_cons,zaR,show (k+1) * s=(enc x).cs.length+k * s by rw [hs,Nat.succ_mul];omega,List.drop_append,List.drop_of_length_le (by omega),Nat.add_sub_cancel_left,List.nil_append,zht hs l k (by simpa using h)]
  rfl
theorem zmr {l:List Fl} {k:Nat} (h:k<l.length):List.take 7 (List.drop (k * 7) (cells (l.map encF)))=[.str (l.getD k default).m.topic, .sl ((l.getD k default).m.pay.map u8), .int .i64 (l.getD k default).m.qos, .bool (l.getD k default).m.retain, .int .i64 (l.getD k default).id, .int .i64 (l.getD k default).sent, .bool (l.getD k default).rcv]:=zht (s:=7) (fun _=>rfl) l k h
theorem zoD {l:List Fl} {k j:Nat} (h:k<l.length) (hj:j<7):(List.drop (k * 7+j) (cells (l.map encF))).getD 0 .any=(encF (l.getD k default)).cs.getD j .any:=by
 have e:=zht (enc:=encF) (s:=7) (fun _=>rfl) l k h
 rw [<-e]
 simp only [List.getD_eq_getElem?_getD,List.getElem?_drop,List.getElem?_take]
 rw [if_pos hj,Nat.add_zero]
theorem znj {l:List Fl} {k:Nat} (h:k<l.length):List.take 4 (List.drop (k * 7) (cells (l.map encF)))=[.str (l.getD k default).m.topic, .sl ((l.getD k default).m.pay.map u8), .int .i64 (l.getD k default).m.qos, .bool (l.getD k default).m.retain]:=by
 have e:=congrArg (List.take 4) (zmr h)
 rw [List.take_take] at e
 exact e
theorem zok {l:List Fl} {k:Nat} (h:k<l.length):(List.drop (k * 7+2) (cells (l.map encF))).getD 0 .any = .int .i64 (l.getD k default).m.qos:=zoD h (by decide)
theorem f_id {l:List Fl} {k:Nat} (h:k<l.length):(List.drop (k * 7+4) (cells (l.map encF))).getD 0 .any = .int .i64 (l.getD k default).id:=zoD h (by decide)
theorem zka {l:List Fl} {k:Nat} (h:k<l.length):(List.drop (k * 7+5) (cells (l.map encF))).getD 0 .any = .int .i64 (l.getD k default).sent:=zoD h (by decide)
theorem znm {l:List Fl} {k:Nat} (h:k<l.length):(List.drop (k * 7+6) (cells (l.map encF))).getD 0 .any = .bool (l.getD k default).rcv:=zoD h (by decide)
theorem zkH {l:List Fl}:∀ k:Nat,(cells (l.map encF)).take (k * 7)=cells ((l.take k).map encF):=by
 induction l with
 | nil=>intro k;simp [cells]
 | cons x l ih =>
  intro k
  cases k with
  | zero=>rw [Nat.zero_mul,List.take_zero,List.take_zero];rfl
  | succ k =>
   rw [List.map_cons,zaR,List.take_succ_cons,List.map_cons,zaR,<-ih k,List.take_append]
   have:(encF x).cs.length=7:=rfl
   rw [List.take_of_length_le (by omega),this,show (k+1) * 7 - 7=k * 7 by omega]
theorem zlc {l:List Fl}:∀ k:Nat,(cells (l.map encF)).drop (k * 7)=cells ((l.drop k).map encF):=by
 induction l with
 | nil=>intro k;simp [cells]
 | cons x l ih =>
  intro k
  cases k with
  | zero=>rw [Nat.zero_mul,List.drop_zero,List.drop_zero]
  | succ k =>
   rw [List.map_cons,zaR,List.drop_succ_cons,<-ih k,List.drop_append]
   have:(encF x).cs.length=7:=rfl
   rw [List.drop_of_length_le (by omega),this,show (k+1) * 7 - 7=k * 7 by omega,List.nil_append]
theorem zlU {l:List Fl} {k:Nat} (h:k<l.length) (f:Fl):l.set k f=l.take k++f::l.drop (k+1):=by
 rw [List.set_eq_take_append_cons_drop,if_pos h]
theorem lay_f {l:List Fl} {k j:Nat} {d:V} {f:Fl} (h:k<l.length) (hj:j<7) (he:(encF f).cs=((encF (l.getD k default)).cs).set j d):layV (cells (l.map encF)) (k * 7+j) [d]=cells ((l.set k f).map encF):=by
 have hl:=zbN l
 have e1:cells (l.map encF)=cells ((l.take k).map encF)++((encF (l.getD k default)).cs++cells ((l.drop (k+1)).map encF)):=by
  conv=>lhs;rw [<-List.take_append_drop (k * 7) (cells (l.map encF)),zkH,zlc,List.drop_eq_getElem_cons h,List.map_cons,zaR]
  rw [show l.getD k default=l[k] by rw [List.getD_eq_getElem?_getD,List.getElem?_eq_getElem h];rfl]
 have ht:(cells ((l.take k).map encF)).length=k * 7:=by rw [zbN,List.length_take];rw [Nat.min_eq_left (by omega)]
 have h7:(encF (l.getD k default)).cs.length=7:=rfl
 rw [zlU h,List.map_append,List.map_cons,zb2,zaR,he,e1]
 unfold layV
 generalize (encF (l.getD k default)).cs=A at h7 ⊢
 generalize cells ((l.take k).map encF)=T at ht ⊢
 generalize cells ((l.drop (k+1)).map encF)=D
 rw [show [d].length=1 from rfl,List.take_append,List.take_of_length_le (show T.length<=k * 7+j by omega),ht,Nat.add_sub_cancel_left,List.drop_append,List.drop_of_length_le (show T.length<=k * 7+j+1 by omega),List.nil_append,ht]
 rw [show k * 7+j+1 - k * 7=j+1 by omega,List.take_append_of_le_length (show j<=A.length by omega),List.drop_append_of_le_length (show j+1<=A.length by omega),List.set_eq_take_append_cons_drop,if_pos (show j<A.length by omega)]
 simp
attribute [local irreducible] DW SeqD DV DOp DC DVX DVJ zbv zbm idsF usI zb0 zb8
section
attribute [local push_cast 2000] List.length_nil
end
end
section
theorem zle:∀ l:List Fl,∀ x∈cells (l.map encF),V.one x=true
 | [],x,h=>by simp [cells] at h
 | f::l,x,h=>by
  rw [List.map_cons,zaR,List.mem_append] at h
  rcases h with h | h
  · have e:(encF f).cs=[.str f.m.topic, .sl (f.m.pay.map u8), .int .i64 f.m.qos, .bool f.m.retain, .int .i64 f.id, .int .i64 f.sent, .bool f.rcv]:=rfl
    rw [e] at h
    simp only [List.mem_cons,List.not_mem_nil,or_false] at h
    rcases h with rfl | rfl | rfl | rfl | rfl | rfl | rfl<;>rfl
  · exact zle l x h
attribute [local irreducible] DW SeqD DV DOp DC DVX DVJ zbv zbm idsF usI zb0 zb8
section
attribute [local push_cast 2000] zmr znj zok f_id zka znm zbN
end
section
attribute [local push_cast 2000] zbN zhm zjp zhd zje Nat.sub_zero List.drop_zero Nat.zero_add
end
section
attribute [local push_cast 2000] zmr znj zok f_id zka znm zbN
end
end
section
theorem zin {xs:Array Value} (h:xs.size=1):∃ a,xs = #[a]:=by
 obtain ⟨l⟩:=xs
 match l,h with
 | [a],_=>exact ⟨a,rfl⟩
section
variable {P:Program} {ρ : Go.Shelf.Ren}
end
end
end Go.Proofs.YtgekknefphagbaaGreatDoor
