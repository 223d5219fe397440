/- The broker: what is taken of one who is not there; a name that is none. -/
import Derived.Test.YtgekknefphagbaaGreatDoorOjx
import Derived.Test.YtgekknefphagbaaGreatDoorCzx
import Derived.KernelRfl
namespace Go.Proofs.YtgekknefphagbaaGreatDoor
open Go.RowKit
set_option linter.unusedSimpArgs false
set_option linter.unusedVariables false
set_option linter.unusedSectionVars false
set_option maxHeartbeats 4000000
set_option maxRecDepth 100000
section
section
variable {P:Program} {n:Nat} {Q:Exit->Env->Own->Prop} {e:Env} {H:Own}
theorem DW.toR (id:Nat) {ops:Array Oper} {dr:Bool} {G:Own} (hG:SubP G H) (h:DW P n (.region id ops dr) Q e G):DW P n (.region id ops dr) Q e H:=by
 obtain ⟨L,h1,h2⟩:=hG
 exact DW.weak e L (fun _=>.inl rfl) h2 (DW.perm h1 h)
end
theorem zaM (l1 l2:List Cn) (c:Cn):kvC (l1++c::l2)=kvC l1++(c.n,c.b)::kvC l2:=by unfold kvC;rw [List.map_append];rfl
attribute [local irreducible] SN.own ownT ownC ownS ownB zae zbj zaK zb5
attribute [local irreducible] DW SeqD DV DOp DC DVX DVJ idsF usI sortS putM zaj onlyM
section
attribute [local push_cast 2000] za9 zaW za8 zaL za3 zaG zaV za7 zax za2 zaX zaB zaC zaY zaE zaq za6 zat zaZ za5 zas zba zaD zar zap zbh zbt zbi zaR zaH zaF Option.getD_some Option.getD_none Option.isSome_some Option.isSome_none
end
end
section
theorem BOK.heard {cm sm t:Nat} {ts:TS} {l1 l2:List Cn} {ss:List SN} {c:Cn} (h:BOK ⟨cm,sm,t,ts,l1++c::l2,ss⟩) (now:Int):BOK ⟨cm,sm,t,ts,l1++{ c with heard:=zbf now }::l2,ss⟩:=by
 refine ⟨h.t,?_,fun d hd=>?_,h.sn,h.so,h.sq,?_⟩
 · have:=h.cn
   simp only [List.map_append,List.map_cons] at this ⊢
   exact this
 · rcases List.mem_append.1 hd with h1 | h1
   · exact h.co d (List.mem_append.2 (.inl h1))
   · rcases List.mem_cons.1 h1 with rfl | h1
     · have ho:=h.co c (by simp)
       exact ⟨ho.n,zdJ now,ho.keep,ho.will,ho.wm,ho.lv,ho.wv,ho.s⟩
     · exact h.co d (List.mem_append.2 (.inr (List.mem_cons_of_mem _ h1)))
 · have key:∀ d∈l1++{ c with heard:=zbf now }::l2,∃ d'∈l1++c::l2,d'.n=d.n/\d'.s=d.s:=fun d hd=>by
    rcases List.mem_append.1 hd with h1 | h1
    · exact ⟨d,List.mem_append.2 (.inl h1),rfl,rfl⟩
    · rcases List.mem_cons.1 h1 with rfl | h1
      · exact ⟨c,by simp,rfl,rfl⟩
      · exact ⟨d,List.mem_append.2 (.inr (List.mem_cons_of_mem _ h1)),rfl,rfl⟩
   intro a ha d hd e e' he he' hee
   obtain ⟨a',ha',ha1,ha2⟩:=key a ha
   obtain ⟨d',hd',hd1,hd2⟩:=key d hd
   rw [<-ha1,<-hd1]
   exact h.sd a' ha' d' hd' e e' (ha2.trans he) (hd2.trans he') hee
attribute [local irreducible] SN.own ownT ownC ownS zae zbj zaK zb5
attribute [local irreducible] DW SeqD DV DOp DC DVX DVJ idsF usI sortS putM zaj onlyM
attribute [local push_cast 2000] za9 zaW za8 zaL za3 zaG zaV za7 zax za2 zaX zaB zaC zaY zaE zaq za6 zat zaZ za5 zas zba zaD zar zap zbh zbt zbi zaR zaH zaF Option.getD_some Option.getD_none Option.isSome_some Option.isSome_none
section
end
section
end
end
section
theorem zmQ:SendK (zan 13 0 false 0):=⟨zh3 _ _ _ _,by show (13:Int)=2\/_;simp [zan],by first | rfl | (unfold onlyM zan;simp)⟩
attribute [local irreducible] SN.own ownT ownC ownS zae zbj zaK zb5
attribute [local irreducible] DW SeqD DV DOp DC DVX DVJ idsF usI sortS putM zaj onlyM
theorem zbY {p:Prop} (h:p:=by first | exact sv | exact zmQ | fail):p:=h
theorem zgC {P Q:Prop} (q:Q) (h:Hid Q->P:=by (intro q;simp (maxSteps:=1000000) (disch:=omega) only [push_cast,↓reduceIte,reduceCtorEq,Nat.reduceAdd,Nat.reduceMul,Nat.reduceLT,Nat.reduceLeDiff,Nat.reduceEqDiff,Nat.reduceSub,Int.reduceToNat,Int.reduceLT,Int.reduceLE,Int.reduceAdd,Int.reduceSub,Int.reduceMul,Int.reduceNeg,Nat.reduceBEq,Int.reduceBEq,Int.reduceBNe,Nat.reduceBNe,Int.reduceEq,hlk,hC];exact q.1)):P:=h ⟨q⟩
attribute [local push_cast 2000] za9 zaW za8 zaL za3 zaG zaV za7 zax za2 zaX zaB zaC zaY zaE zaq za6 zat zaZ za5 zas zba zaD zar zap zbh zbt zbi zaR zaH zaF Option.getD_some Option.getD_none Option.isSome_some Option.isSome_none
section
theorem zjC (bb:Nat) (m:Int) (cm sm t:Nat) (ts:TS) (l1 l2:List Cn) (ss:List SN) (n now:Int) (cb st:Nat) (left:YS) (bad hd kp:Int) (cl:Bool) (will:List Mg) (lv wv:V) (xn:YS) (xb:Nat) (p:Pk) (T1 T2 T3 T4:List V) (F:Own):(lookA n (kvC l1++(n,cb)::kvC l2)=some cb/\p.kind=12)->DC Tryz.prog 14 [.raw (.pointer (some ⟨bb,0,none⟩)), .int .i64 n, .agg [.int .i64 p.kind, .bool p.dup, .bool p.retain, .int .i64 p.qos, .int .i64 p.id, .str p.topic, .sl (p.payload.map u8), .int .i64 p.level, .str p.client, .bool p.clean, .int .i64 p.keep, .bool p.hasWill, .str p.wtopic, .sl (p.wpay.map u8), .int .i64 p.wqos, .bool p.wretain, .bool p.hasUser, .bool p.hasPass, .str p.user, .sl (p.pass.map u8), .bool p.present, .int .i64 p.code, .sl (p.subs.map encU), .sl (p.codes.map (V.int .i64))], .int .i64 now, .agg [.sl T1, .sl T2, .sl T3, .sl T4]] (loose::knF::knA::knM m :: .blk bb [.raw (.map (some cm)), .raw (.map (some sm)), .raw (.pointer (some ⟨t,0,none⟩))] :: .map cm (entM (V.int .i64) pv (kvC l1++(n,cb)::kvC l2)) :: .blk cb [.raw (.pointer (some ⟨st,0,none⟩)), .int .i64 hd, .raw (.pointer (some ⟨xb,0,none⟩)), .int .i64 kp, .bool cl,wv] :: .map sm (entM V.str pv (kvS ss)) :: .blk st [lv, .int .i64 bad]::(ownC l1++(ownC l2++(ownS ss++(ownT t ts++[]))))++F) fun d G=>d = .tup [zc5 (⟨outM n [zan 13 0 false 0],[],[],[]⟩:Ef), .int .i64 0]/\G=loose::knF::knA::knM m::(ownB bb (⟨cm,sm,t,ts,l1++(⟨n,cb,st,left,bad,zbf now,some (xn,xb),kp,cl,will,lv,wv⟩:Cn)::l2,ss⟩:BN)++F):=by
 intro hA
 obtain ⟨hlk,hC⟩:=hA
 refine DC.bodyS (n_:=114) (show Tryz.prog.funcs[14]? = some Tryz.f14 by kernel_rfl) rfl rfl (by rfl) ?_
 simp only [env0,List.append_assoc,List.cons_append,List.nil_append]
 have kw:=ksIs [0,1,2,3,4,7,9,10,11,12,14,22,37,42,43,50,56,71,85,93,99,106]
 have ow:=zaf []
 have dw5:=drIs 5 [] [3,6]
 have dw13:=drIs 13 [] [3,4,5]
 have dw18:=drIs 18 [10] [4,5,7,8]
 have rw_:=rsIs [.cell 10 38, .tmp 11]
 repeat' (first
  | ((refine DOp.load_ rfl rfl ?_);(repeat (with_reducible first | refine OnB.here ?_ | refine OnB.next ?_ | (refine OnB.inH (by assumption) ?_;with_reducible intro C) | refine OnB.skip ?_));refine zgC ?_)
  | ((refine DOp.look_ rfl rfl ?_);(repeat (with_reducible first | refine OnM.here ?_ | refine OnM.next ?_ | (refine OnM.inN (by assumption) ?_;with_reducible intro C hC) | (refine OnM.inK (by assumption) ?_;with_reducible intro C hC) | refine OnM.skip ?_));refine zgC ?_)
  | refine g_ ?_
  | ((with_reducible refine And.intro ?_ ?_);(exact zbY))
  | (refine DW.cond (by rfl) ?_ ?_<;>(first | exact i0_ | (intro hb;(try simp only [↓reduceCtorEq,not_true_eq_false,not_false_eq_true,hbs,Int.reduceBEq,Int.reduceBNe,Int.reduceEq] at hb);(try refine zgC ?_))))
  | ((with_reducible first | refine zaa ?_ ?_ | refine zak ?_ ?_)<;>(intro hb;rw [hb];revert hb;(first | exact i0_ | (intro hb;(try simp only [↓reduceCtorEq,not_true_eq_false,not_false_eq_true,hbs,Int.reduceBEq,Int.reduceBNe,Int.reduceEq] at hb);(try refine zgC ?_)))))
  | ((first | refine rn_ ?_ | refine dn_ ?_ | refine kn_ ?_)<;>(refine zgC ?_))
  | ((refine dm_ ?_);(first | ((first | refine v_ (zdv _ _) ?_ (ha:=by exact zbY) (hk:=fun q=>q.1) | refine v_ (zol _ _ _ _ _ _) ?_ (ha:=by exact zbY) (hk:=fun q=>q.1));refine zgC ?_) | (refine DVop.look_ rfl rfl rfl rfl ?_;(repeat (with_reducible first | refine OnM.here ?_ | refine OnM.next ?_));refine zgC ?_)))
  | ((refine von_ ?_);refine zgC ?_)
  | ((first | (refine DOp.look_ rfl rfl ?_;(repeat (with_reducible first | refine OnM.here ?_ | refine OnM.next ?_))))<;>(refine zgC ?_))
  | ((first | refine q_ (zdv _ _) ?_ (ha:=by exact zbY) (hk:=fun q=>q.1) | refine q_ (zol _ _ _ _ _ _) ?_ (ha:=by exact zbY) (hk:=fun q=>q.1));refine zgC ?_)
  | ((refine on_ ?_);refine zgC ?_)
  | refine f_ ?_
  | refine vm_ ?_
  | ((fail_if_success (have zz:=rb));with_reducible intro rb)
  | with_reducible intro b)
 all_goals first
 | (((refine ⟨_,_,le.tup (Les.cons (le.agg (Les.cons le.rfl_ (Les.cons (le.gs rfl) (Les.cons (le.gs rfl) (Les.cons (le.gs rfl) Les.nil))))) (Les.cons le.rfl_ Les.nil)),⟨rfl,rfl⟩,?_⟩);((simp only [ownB,BN.maps,zad,zaM,Cn.own,Cn.cells,Cn.sv,Option.map_none,Option.map_some,List.append_assoc,List.cons_append,List.nil_append,List.append_nil]));(exact sub_);done))
 | (trace_state;fail)
end
section
end
end
section
theorem zbq (l1 l2:List SN) (c:SN):kvS (l1++c::l2)=kvS l1++(c.a.name,c.b)::kvS l2:=by unfold kvS;rw [List.map_append];rfl
theorem zpp {k id:Int} (h:k=4\/k=5\/k=6\/k=7):SendK (ackP k id):=by
 refine ⟨zh3 k id false 0,?_,?_⟩
 · show k=2\/_;simp only [ackP];omega
 · rcases h with rfl | rfl | rfl | rfl<;>first | rfl | (unfold onlyM ackP;simp)
attribute [local irreducible] SN.own ownT ownC ownS zae zbj zaK zb5
attribute [local irreducible] DW SeqD DV DOp DC DVX DVJ idsF usI sortS putM zaj onlyM
section
attribute [local push_cast 2000] za9 zaW za8 zaL za3 zaG zaV za7 zax za2 zaX zaB zaC zaY zaE zaq za6 zat zaZ za5 zas zba zaD zar zap zbh zbt zbi zaR zaH zaF Option.getD_some Option.getD_none Option.isSome_some Option.isSome_none
end
end
section
theorem zk0 {m:Mg} (hm:MgN m) (id:Int) (dup:Bool) (h1:1<=m.qos):SendK (pubM m id dup):=by
 refine ⟨⟨hm.topic,hm.pay,Nat.zero_le _,Nat.zero_le _,Nat.zero_le _,Nat.zero_le _,Nat.zero_le _,Nat.zero_le _,fun k=>by simp [pubM];exact Nat.zero_le _,Nat.zero_le _⟩,?_,?_⟩
 · show (3:Int)=2\/_;simp [pubM]
 · unfold onlyM pubM;simp;refine ⟨fun _=>by omega,fun _=>by omega,?_⟩;exact ⟨rfl,rfl,rfl,rfl,rfl,rfl,rfl,rfl,rfl,rfl,rfl,rfl,rfl,rfl,rfl,rfl,rfl⟩
theorem send_at {l:List Pk} (h:∀ p∈l,SendK p):∀ k,k<l.length->SendK (l.getD k default):=fun k hk=>by
 rw [List.getD_eq_getElem?_getD,List.getElem?_eq_getElem hk]
 exact h _ (List.getElem_mem hk)
theorem zhj (now:Int):∀ (q:List Mg) (a:SA),(∀ m∈q,MgN m/\1<=m.qos)->∀ p∈zb9 now q a,SendK p
 | [],a,_,p,hp=>by unfold zb9 at hp;cases hp
 | m::q,a,h,p,hp=>by
  unfold zb9 at hp
  split at hp
  · rcases List.mem_cons.1 hp with rfl | hp
    · exact zk0 (h m List.mem_cons_self).1 _ _ (h m List.mem_cons_self).2
    · exact zhj now q _ (fun x hx=>h x (List.mem_cons_of_mem _ hx)) p hp
  · cases hp
theorem zli {now ago:Int} {l:List Fl} (h:∀ f∈l,FlOK f/\1<=f.m.qos):∀ p∈zcJ now ago l,SendK p:=fun p hp=>by
 unfold zcJ at hp
 obtain ⟨f,hf,hp⟩:=List.mem_flatMap.1 hp
 unfold agP at hp
 split at hp
 · cases hp
 · split at hp
   · rw [List.mem_singleton.1 hp];exact zpp (by omega)
   · rw [List.mem_singleton.1 hp];exact zk0 (h f hf).1.m _ _ (h f hf).2
theorem zjL {a:SA} (h:SAOK a) (hq:SAQ a) (now:Int):∀ p∈zam now a,SendK p:=fun p hp=>by
 unfold zam at hp
 rcases List.mem_append.1 hp with hp | hp
 · exact zli (fun f hf=>⟨h.flo f hf,hq.fly f hf⟩) p hp
 · exact zhj now a.q _ (fun m hm=>⟨h.qm m hm,hq.q m hm⟩) p hp
end
end Go.Proofs.YtgekknefphagbaaGreatDoor
