/- Sessions: what a client says; all once more. -/
import Derived.Test.YtgekknefphagbaaGreatDoorJbx
import Derived.KernelRfl
import Derived.Test.YtgekknefphagbaaGreatDoorJax
import Derived.Test.YtgekknefphagbaaGreatDoorMpx
import Derived.Test.YtgekknefphagbaaGreatDoorCzx
namespace Go.Proofs.YtgekknefphagbaaGreatDoor
open Go.RowKit
set_option linter.unusedSimpArgs false
set_option linter.unusedVariables false
set_option linter.unusedSectionVars false
set_option maxHeartbeats 4000000
set_option maxRecDepth 100000
section
theorem znd (now ago:Int) (l:List Fl):idsF (l.map (agF now ago))=idsF l:=by
 unfold idsF
 rw [List.map_map]
 refine List.map_congr_left fun f _=>?_
 simp only [Function.comp,agF];split<;>rfl
theorem pk_app (a b:List Pk):a.map zcG++b.map zcG=(a++b).map zcG:=(List.map_append).symm
theorem zfg (now:Int):∀ (q:List Mg) (a:SA),(zb9 now q a).length<=q.length
 | [],a=>Nat.le_refl _
 | m::q,a=>by
  unfold zb9
  split
  · have:=zfg now q (zfA now m a);simp only [List.length_cons];omega
  · exact Nat.zero_le _
attribute [local irreducible] DW SeqD DV DOp DC DVX DVJ zbx zbf idsF usI zb0 zb9 zoe zcJ
theorem zl2 (b sm ib um qb gm:Nat) (fv qv:Value) (lost:Int) (nm:YS) (sb:List (YS×Int)) (tk:Int) (fl:List Fl) (q:List Mg) (got:List Int) (n:Nat) (us:List Int) (now:Int) (F:Own):(((fl.length<=100/\0<=tk/\tk<=65535/\q.length<=1000)/\∀ m∈q,MgN m)/\n=fl.length/\us=idsF fl)->DC Tryz.prog 149 [.raw (.pointer (some ⟨b,0,none⟩)), .int .i64 now] ([.blk b [.str nm, .raw (.map (some sm)), .raw (.pointer (some ⟨ib,0,none⟩)), .ar fv n, .raw (.pointer (some ⟨qb,0,none⟩)), .raw (.map (some gm))], .blk ib [.raw (.map (some um)), .int .i64 65535, .int .i64 tk], .map um (entM (V.int .i64) V.bool (usI us)), .arr 7 fv (cells (fl.map encF)), .blk qb [.gs qv (q.map encM), .int .i64 8, .int .i64 lost], .tail 4 qv]++F) fun d G=>∃ (a2:SA) (fv2 qv2:Value),a2=zb0 now q (⟨nm,sb,tk,fl,q,got⟩:SA)/\d = .sl ((zb9 now q (⟨nm,sb,tk,fl,q,got⟩:SA)).map zcG)/\G = .blk b [.str nm, .raw (.map (some sm)), .raw (.pointer (some ⟨ib,0,none⟩)), .ar fv2 a2.fly.length, .raw (.pointer (some ⟨qb,0,none⟩)), .raw (.map (some gm))] :: .blk ib [.raw (.map (some um)), .int .i64 65535, .int .i64 a2.taken] :: .map um (entM (V.int .i64) V.bool (usI (idsF a2.fly))) :: .arr 7 fv2 (cells (a2.fly.map encF)) :: .blk qb [.gs qv2 (a2.q.map encM), .int .i64 8, .int .i64 lost] :: .tail 4 qv2::F:=by
 rintro ⟨h,rfl,rfl⟩
 exact znH b sm ib um qb gm fv qv lost nm sb tk fl q got now F h
section
attribute [local push_cast 2000] za9 zaW za8 zaL za3 zaG zaV za7 zax za2 zaX zaB zaC zaY zaE zaq za6 zat zaZ za5 zas zba zaD zar zap zbh zhP zbi zhH zjn zh9 zjU zff
end
theorem zd4 {p:Prop} (h:p:=by first | exact sv | (refine ⟨⟨⟨?_,?_,?_,?_⟩,hqm⟩,?_,?_⟩<;>(first | exact hln.symm | exact hia.symm | ((try simp only [List.length_map]);omega))) | (refine ⟨?_,?_,fun _ _=>rfl,fun _ _=>⟨rfl,rfl⟩⟩<;>omega) | fail):p:=h
section
attribute [local push_cast 2000] List.length_map pk_app
theorem zlF (b sm ib um qb gm:Nat) (fv qv:Value) (lost:Int) (nm:YS) (sb:List (YS×Int)) (tk:Int) (fl:List Fl) (q:List Mg) (got:List Int) (now:Int) (F:Own):(((fl.length<=100/\0<=tk/\tk<=65535/\q.length<=1000)/\∀ m∈q,MgN m)/\∀ k,k<fl.length->(-1099511627776<=(fl.getD k default).sent/\(fl.getD k default).sent<=1099511627776)/\(fl.getD k default).m.pay.length<=100000)->DC Tryz.prog 87 [.raw (.pointer (some ⟨b,0,none⟩)), .int .i64 now] ([.blk b [.str nm, .raw (.map (some sm)), .raw (.pointer (some ⟨ib,0,none⟩)), .ar fv fl.length, .raw (.pointer (some ⟨qb,0,none⟩)), .raw (.map (some gm))], .blk ib [.raw (.map (some um)), .int .i64 65535, .int .i64 tk], .map um (entM (V.int .i64) V.bool (usI (idsF fl))), .arr 7 fv (cells (fl.map encF)), .blk qb [.gs qv (q.map encM), .int .i64 8, .int .i64 lost], .tail 4 qv]++F) fun d G=>∃ (a2:SA) (fv2 qv2:Value),a2=zb4 now (⟨nm,sb,tk,fl,q,got⟩:SA)/\d = .sl ((zam now (⟨nm,sb,tk,fl,q,got⟩:SA)).map zcG)/\G = .blk b [.str nm, .raw (.map (some sm)), .raw (.pointer (some ⟨ib,0,none⟩)), .ar fv2 a2.fly.length, .raw (.pointer (some ⟨qb,0,none⟩)), .raw (.map (some gm))] :: .blk ib [.raw (.map (some um)), .int .i64 65535, .int .i64 a2.taken] :: .map um (entM (V.int .i64) V.bool (usI (idsF a2.fly))) :: .arr 7 fv2 (cells (a2.fly.map encF)) :: .blk qb [.gs qv2 (a2.q.map encM), .int .i64 8, .int .i64 lost] :: .tail 4 qv2::F:=by
 intro hA
 obtain ⟨⟨⟨hfl,htk0,htk1,hql⟩,hqm⟩,hfo⟩:=hA
 refine DC.bodyS (n_:=12) (show Tryz.prog.funcs[87]? = some Tryz.f87 by kernel_rfl) rfl rfl (by rfl) ?_
 simp only [env0,List.cons_append,List.nil_append]
 have kw:=ksIs [0,1,4]
 have ow:=zaf []
 have hap:=zoj now (-4398046511104) fl
 have hdl:=zfg now q (⟨nm,sb,tk,fl.map (agF now (-4398046511104)),q,got⟩:SA)
 have hia:=znd now (-4398046511104) fl
 have hln:(fl.map (agF now (-4398046511104))).length=fl.length:=List.length_map ..
 repeat' (first
  | refine g_ ?_
  | ((with_reducible refine And.intro ?_ ?_);(exact zd4))
  | (refine DW.cond (by rfl) ?_ ?_<;>(first | exact i0_ | (refine ic_ ?_;intro hb)))
  | ((with_reducible refine zaa ?_ ?_)<;>(intro hb;rw [hb];revert hb;(first | exact i0_ | (refine i_ ?_;intro hb))))
  | refine r_ ?_
  | refine k_ ?_
  | (refine p_ (znz _ _ _ _ _ _ _ _ _ _ _) ?_ (ha:=by exact zd4);rintro d H1 ⟨v2,rfl,rfl⟩<;>refine s_ ?_)
  | (refine p_ (zl2 (sb:=sb) (got:=got) _ _ _ _ _ _ _ _ _ _ _ _ _ _ _ _ _) ?_ (ha:=by exact zd4);rintro d H1 ⟨a2,fv2,qv2,ha2,rfl,rfl⟩<;>refine s_ ?_)
  | refine o_ ?_
  | refine f_ ?_
  | ((fail_if_success (have zz:=v3));with_reducible intro v3)
  | with_reducible intro b)
 all_goals first
 | (((refine ⟨_,_,le.gs rfl,⟨a2,fv2,qv2,ha2,rfl,rfl⟩,?_⟩);exact sub_))
 | (trace_state;fail)
end
end
section
theorem DC.conv {P:Program} {f:FuncId} {args:List V} {H H':Own} {K K':V->Own->Prop} (h:DC P f args H' K) (hH:SubP H' H) (hk:∀ d G,K d G->∃ d' G',le d d'/\K' d' G'/\SubP G' G):DC P f args H K':=by
 obtain ⟨L,h1,h2⟩:=hH
 exact DC.sub (DC.weak h2 (DC.perm h1 (h.mono hk)))
theorem SAOK.flAt {a:SA} (h:SAOK a) {k:Nat} (hk:k<a.fly.length):FlOK (a.fly.getD k default):=by
 rw [List.getD_eq_getElem?_getD,List.getElem?_eq_getElem hk]
 exact h.flo _ (List.getElem_mem hk)
theorem SAOK.hfo {a:SA} (h:SAOK a):∀ k,k<a.fly.length->(-1099511627776<=(a.fly.getD k default).sent/\(a.fly.getD k default).sent<=1099511627776)/\(a.fly.getD k default).m.pay.length<=100000:=fun k hk=>⟨(h.flAt hk).sent,(h.flAt hk).m.pay⟩
theorem SAOK.hyd {a:SA} (h:SAOK a):((a.fly.length<=100/\0<=a.taken/\a.taken<=65535/\a.q.length<=1000)/\∀ m∈a.q,MgN m) :=
 ⟨⟨by have:=h.fly;omega,h.taken.1,h.taken.2,by have:=h.q;omega⟩,h.qm⟩
theorem SAOK.new {nm:YS} (h:nm.length<=100000):SAOK (newA nm):=⟨h,Nat.zero_le _,List.nodup_nil,(fun _ h=>nomatch h),Nat.zero_le _,(fun _ h=>nomatch h),⟨Int.le_refl (0:Int),by show (0:Int)<=65535;omega⟩,List.nodup_nil,List.nodup_nil⟩
structure KeepA (a b:SA):Prop where
 name:a.name=b.name
 subs:a.subs=b.subs
 got:a.got=b.got
theorem zhn (now:Int):∀ (q:List Mg) (a:SA),KeepA (zb0 now q a) a
 | [],a=>⟨rfl,rfl,rfl⟩
 | m::q,a=>by
  unfold zb0
  split
  · have h:=zhn now q (zfA now m a)
    exact ⟨h.name,h.subs,h.got⟩
  · exact ⟨rfl,rfl,rfl⟩
theorem zjr (now:Int) (a:SA):KeepA (zb4 now a) a:=by have h:=zhn now a.q (zeO now (-4398046511104) a);exact ⟨h.name,h.subs,h.got⟩
attribute [local irreducible] DW SeqD DV DOp DC DVX DVJ zbx zbf idsF usI zb0 zb9 zoe zcJ zcG
theorem sresX (x:SN) (now:Int) (F:Own):(SAOK x.a)->DC Tryz.prog 87 [.raw (.pointer (some ⟨x.b,0,none⟩)), .int .i64 now] (x.own++F) fun d G=>∃ x':SN,(SAOK x'.a/\x'.a=zb4 now x.a/\x'.b=x.b)/\d = .sl ((zam now x.a).map zcG)/\G=x'.own++F:=by
 obtain ⟨b,sm,ib,um,qb,gm,fv,qv,lost,⟨nm,sb,tk,fl,q,got⟩⟩:=x
 intro h
 refine DC.conv (zlF b sm ib um qb gm fv qv lost nm sb tk fl q got now ([.map sm (entM V.str (V.int .i64) sb), .map gm (entM (V.int .i64) V.bool (usI got))]++F) ⟨h.hyd,h.hfo⟩) kxbv ?_
 rintro d G ⟨a2,fv2,qv2,rfl,rfl,rfl⟩
 have hk:=zjr now (⟨nm,sb,tk,fl,q,got⟩:SA)
 refine ⟨_,_,le.rfl_,⟨(⟨b,sm,ib,um,qb,gm,fv2,qv2,lost,zb4 now (⟨nm,sb,tk,fl,q,got⟩:SA)⟩:SN),⟨h.resume now,rfl,rfl⟩,rfl,rfl⟩,?_⟩
 (simp only [SN.own,SN.cs,hk.name,hk.subs,hk.got,List.cons_append,List.nil_append])
 exact sub_
theorem scliX (x:SN) (F:Own):True->DC Tryz.prog 49 [.raw (.pointer (some ⟨x.b,0,none⟩))] (x.own++F) fun d G=>d = .str x.a.name/\G=x.own++F:=by
 obtain ⟨b,sm,ib,um,qb,gm,fv,qv,lost,⟨nm,sb,tk,fl,q,got⟩⟩:=x
 intro _
 refine DC.conv (zl4 b sm ib qb gm fv nm fl ([.map sm (entM V.str (V.int .i64) sb), .map gm (entM (V.int .i64) V.bool (usI got)), .arr 7 fv (cells (fl.map encF)), .blk ib [.raw (.map (some um)), .int .i64 65535, .int .i64 tk], .map um (entM (V.int .i64) V.bool (usI (idsF fl))), .blk qb [.gs qv (q.map encM), .int .i64 8, .int .i64 lost], .tail 4 qv]++F) trivial) kxbv ?_
 rintro d G ⟨rfl,rfl⟩
 refine ⟨_,_,le.rfl_,⟨rfl,rfl⟩,?_⟩
 (simp only [SN.own,SN.cs,List.cons_append,List.nil_append])
 exact sub_
theorem ssubX (m:Int) (x:SN) (ff:YS) (qq:Int) (F:Own):(SAOK x.a/\filterB ff=true/\ff.length<=1000000/\0<=qq/\qq<=2)->DC Tryz.prog 96 [.raw (.pointer (some ⟨x.b,0,none⟩)), .str ff, .int .i64 qq] (knF::knA::knM m::(x.own++F)) fun d G=>∃ x':SN,(SAOK x'.a/\x'.a=subA ff qq x.a/\x'.b=x.b)/\(∃ r:Bool,d = .bool r)/\G=knF::knA::knM m::(x'.own++F):=by
 obtain ⟨b,sm,ib,um,qb,gm,fv,qv,lost,⟨nm,sb,tk,fl,q,got⟩⟩:=x
 rintro ⟨h,h1⟩
 refine DC.conv (ssub_dc m b sm ib qb gm fv nm fl sb ff qq ([.map gm (entM (V.int .i64) V.bool (usI got)), .arr 7 fv (cells (fl.map encF)), .blk ib [.raw (.map (some um)), .int .i64 65535, .int .i64 tk], .map um (entM (V.int .i64) V.bool (usI (idsF fl))), .blk qb [.gs qv (q.map encM), .int .i64 8, .int .i64 lost], .tail 4 qv]++F) h1) kxbv ?_
 rintro d G ⟨r,rfl,rfl⟩
 refine ⟨_,_,le.rfl_,⟨(⟨b,sm,ib,um,qb,gm,fv,qv,lost,subA ff qq (⟨nm,sb,tk,fl,q,got⟩:SA)⟩:SN),⟨h.sub ff qq,rfl,rfl⟩,⟨r,rfl⟩,rfl⟩,?_⟩
 (simp only [SN.own,SN.cs,subA,List.cons_append,List.nil_append])
 exact sub_
end
section
theorem bl_lt:∀ a b:Str,Op.bytesLess a b=decide (a<b)
 | [],[]=>by simp [Op.bytesLess]
 | [],_::_=>by simp [Op.bytesLess]
 | _::_,[]=>by simp [Op.bytesLess]
 | a::x,b::y=>by
  simp only [Op.bytesLess,bl_lt x y,List.cons_lt_cons_iff]
  by_cases h1:a<b
  · simp [h1]
  · by_cases h2:a=b
    · simp [h2]
    · simp [h1,h2]
theorem lt_tri {a b:Str} (h:¬ a<b) (h':¬ b<a):a=b:=List.le_antisymm (List.not_lt.1 h') (List.not_lt.1 h)
def cmpU (a b:Str):Int:=if a<b then -1 else if b<a then 1 else 0
theorem gtr_U (a b:Str):(!(Op.bytesLess a b) && !(a==b))=decide (b<a):=by
 rw [bl_lt]
 by_cases h1:a<b
 · have h2:¬ b<a:=List.lt_asymm h1
   simp [h1,h2]
 · by_cases h2:b<a
   · have h3:a≠b:=fun e=>h1 (e▸(e▸h2))
     simp [h1,h2,h3]
   · have:=lt_tri h1 h2
     subst this
     simp
def cfU (x y:YS×Int):Int:=cmpU x.1 y.1
theorem zhS (x y:YS×Int):decide (cfU x y<0)=decide (x.1<y.1):=by
 unfold cfU cmpU
 by_cases h:x.1<y.1
 · simp [h]
 · rw [if_neg h];split<;>simp [h]
theorem cfU_swo:Go.Sort.SWO (fun x y:YS×Int=>decide (cfU x y<0)) where
 irrefl x:=by rw [zhS];simp
 trans x y z h1 h2:=by
  rw [zhS] at *
  simp only [decide_eq_true_eq] at *
  exact List.lt_trans h1 h2
 ntrans x y z h1 h2:=by
  rw [zhS] at *
  simp only [decide_eq_false_iff_not] at *
  exact List.not_lt.2 (List.le_trans (List.not_lt.1 h2) (List.not_lt.1 h1))
def zav (l:List (YS×Int)):List (YS×Int):=(sortS (l.map (·.1))).map fun k=>(k,(lookA k l).getD 0)
theorem zpy {l l':List (YS×Int)} (hn:(l.map (·.1)).Nodup) (hp:l'.Perm l) (hs:l'.Pairwise fun x y=>¬ cfU y x<0):l'=zav l:=by
 have hn':(l'.map (·.1)).Nodup:=((hp.map (·.1)).nodup_iff).2 hn
 have hup:upS (l'.map (·.1)):=by
  unfold upS
  rw [List.pairwise_map]
  have h2:=List.pairwise_map.1 hn'
  refine (List.Pairwise.and hs h2).imp fun {x y} h=>?_
  have h3:¬ y.1<x.1:=fun hh=>h.1 (by have:=zhS y x;rw [decide_eq_true hh] at this;exact of_decide_eq_true this)
  rcases List.le_iff_lt_or_eq.1 (List.not_lt.1 h3) with h4 | h4
  · exact h4
  · exact absurd h4 h.2
 have e1:sortS (l.map (·.1))=l'.map (·.1):=zhy hn hup fun x=>((hp.map (·.1)).mem_iff).symm
 unfold zav
 rw [e1]
 conv=>lhs;rw [zj6 hn']
 refine List.map_congr_left fun k _=>?_
 have:lookA k l'=lookA k l:=by
  cases h1:lookA k l' with
  | none=>exact (zbF.2 fun x hx=>zbF.1 h1 x (hp.mem_iff.2 hx)).symm
  | some v =>
   have:=zcP h1
   exact (zdQ hn (hp.mem_iff.1 this)).symm
 rw [this]
theorem zkR (l:List (YS×Int)) (x:YS×Int):cells (l.map encU)++[.str x.1, .int .i64 x.2]=cells ((l++[x]).map encU):=by
 rw [List.map_append,zb2];rfl
theorem zp4 {A C O sb:List (YS×Int)} {x:YS×Int} (h:(O++(A++x::C)).Perm sb):((O++[x])++(A++C)).Perm sb:=by
 refine List.Perm.trans ?_ h
 rw [List.append_assoc]
 exact List.Perm.append_left _ (by simpa using (List.perm_middle (l₁:=A) (l₂:=C) (a:=x)).symm)
attribute [local irreducible] DW SeqD DV DOp DC DVX DVJ idsF usI sortS zav
theorem nanu_dc (a:Str) (F:Own):(True)->DC Tryz.prog 243 [.str a] (([]:Own)++F) fun d G=>d = .bool false/\G=[]++F:=by
 intro hA
 refine DC.bodyS (n_:=6) (show Tryz.prog.funcs[243]? = some Tryz.f243 by kernel_rfl) rfl rfl (by rfl) ?_
 simp only [env0,List.cons_append,List.nil_append]
 have kw:=ksIs [0,2]
 have ow:=zaf []
 repeat' (first
  | refine g_ ?_
  | ((with_reducible refine And.intro ?_ ?_);(exact sv))
  | (refine DW.cond (by rfl) ?_ ?_<;>(first | exact i0_ | (refine ic_ ?_;intro hb)))
  | ((with_reducible refine zaa ?_ ?_)<;>(intro hb;rw [hb];revert hb;(first | exact i0_ | (refine i_ ?_;intro hb))))
  | refine r_ ?_
  | refine k_ ?_
  | refine o_ ?_
  | refine f_ ?_
  | with_reducible intro b)
 all_goals
  refine ⟨_,_,le.of_eq ?_,⟨rfl,rfl⟩,SubP.refl⟩
  first | rfl | simp
section
attribute [local push_cast 2000] gtr_U bl_lt
theorem cmpu_dc (a b:Str) (F:Own):(True)->DC Tryz.prog 194 [.str a, .str b] (([]:Own)++F) fun d G=>d = .int .i64 (cmpU a b)/\G=[]++F:=by
 intro hA
 refine DC.bodyS (n_:=20) (show Tryz.prog.funcs[194]? = some Tryz.f194 by kernel_rfl) rfl rfl (by rfl) ?_
 simp only [env0,List.cons_append,List.nil_append]
 have kw:=ksIs [0,1,4,5,6,11,12,13,16,19]
 have ow:=zaf []
 repeat' (first
  | refine g_ ?_
  | ((with_reducible refine And.intro ?_ ?_);(exact sv))
  | (refine DW.cond (by rfl) ?_ ?_<;>(first | exact i0_ | (refine ic_ ?_;intro hb)))
  | ((with_reducible refine zaa ?_ ?_)<;>(intro hb;rw [hb];revert hb;(first | exact i0_ | (refine i_ ?_;intro hb))))
  | refine r_ ?_
  | refine k_ ?_
  | (refine q_ (nanu_dc _ _) ?_)
  | refine o_ ?_
  | refine f_ ?_
  | with_reducible intro b)
 all_goals
  refine ⟨_,_,le.of_eq ?_,⟨rfl,rfl⟩,SubP.refl⟩
  unfold cmpU
  first | (rw [if_neg (by assumption),if_neg (by assumption)]) | (simp_all;done) | (simp_all<;>omega)
end
theorem cfU_dc (a:Str) (i:Int) (b:Str) (j:Int) (F:Own):(True)->DC Tryz.prog 193 [.agg [.str a, .int .i64 i], .agg [.str b, .int .i64 j]] (([]:Own)++F) fun d G=>d = .int .i64 (cfU (a,i) (b,j))/\G=[]++F:=by
 intro hA
 refine DC.bodyS (n_:=10) (show Tryz.prog.funcs[193]? = some Tryz.f193 by kernel_rfl) rfl rfl (by rfl) ?_
 simp only [env0,List.cons_append,List.nil_append]
 have kw:=ksIs [0,1,2,3,4]
 have ow:=zaf []
 repeat' (first
  | refine g_ ?_
  | ((with_reducible refine And.intro ?_ ?_);(exact sv))
  | (refine DW.cond (by rfl) ?_ ?_<;>(first | exact i0_ | (refine ic_ ?_;intro hb)))
  | ((with_reducible refine zaa ?_ ?_)<;>(intro hb;rw [hb];revert hb;(first | exact i0_ | (refine i_ ?_;intro hb))))
  | refine r_ ?_
  | refine k_ ?_
  | (refine q_ (cmpu_dc _ _ _) ?_)
  | refine o_ ?_
  | refine f_ ?_
  | with_reducible intro b)
 all_goals first
 | (exact kxb5)
 | (trace_state;fail)
theorem zp3 (l:List (YS×Int)) (v:Value) (n:Nat) (F:Own):(n=l.length/\l.length<=1000000000)->DC Tryz.prog 192 [.ar v n, .fn (.func 193) [] []] ([.arr 2 v (cells (l.map encU))]++F) fun d G=>∃ l':List (YS×Int),(l'.Perm l/\l'.Pairwise (fun x y=>¬ cfU y x<0))/\d = .tup []/\G = .arr 2 v (cells (l'.map encU))::F:=fun h =>
 (DC.sortF (ok:=fun _=>True) (encV:=encU) (cf:=cfU) (g:=193) zpU (fun w=>zgI (P:=Tryz.prog) (t:=77) (w:=w) (by rw [zn2];decide) (by rw [zn2];decide)) (fun w=>za4 (P:=Tryz.prog) (t:=77) (w:=w) (by rw [zn2];decide) (by rw [zn2];decide)) (enters_of Tryz.func193 (by kernel_rfl) rfl) (by decide) (fun x _=>⟨_,rfl,rfl,rfl⟩) cfU_swo (by kernel_rfl)
   (fun x y _ _=>(cfU_dc x.1 x.2 y.1 y.2 [] trivial).mono fun d G h=>h.1) l v n F ⟨h.1,by omega,fun _ _=>trivial⟩).mono fun d G ⟨h1,l',h2,h3,h4⟩=>⟨l',⟨h2,h3⟩,h1,h4⟩
attribute [local irreducible] cfU
abbrev UL:=List (YS×Int)
theorem zgN {P Q:Prop} (q:Q) (h:Hid Q->P:=by (intro q;simp (maxSteps:=1000000) (disch:=omega) only [push_cast,↓reduceIte,reduceCtorEq,Nat.reduceAdd,Nat.reduceMul,Nat.reduceLT,Nat.reduceLeDiff,Nat.reduceEqDiff,Nat.reduceSub,Int.reduceToNat,Int.reduceLT,Int.reduceLE,Int.reduceAdd,Int.reduceSub,Int.reduceMul,Int.reduceNeg,Nat.reduceBEq,Int.reduceBEq,Int.reduceBNe,Nat.reduceBNe,Int.reduceEq,hlk,hC];exact q.1)):P:=h ⟨q⟩
section
attribute [local push_cast 2000] za9 zaW za8 zaL za3 zaG zaV za7 zax za2 zaX zaB zaC zaY zaE zaq za6 zat zaZ za5 zas zba zaD zar zap zaR zcO zaH zaF Option.getD_some Option.getD_none Option.isSome_some Option.isSome_none
theorem znx (b sm ib qb gm:Nat) (fv:Value) (nm:YS) (fl:List Fl) (sb:List (YS×Int)) (F:Own):(sb.length<=1000000000/\(sb.map (·.1)).Nodup)->DC Tryz.prog 146 [.raw (.pointer (some ⟨b,0,none⟩))] (.blk b [.str nm, .raw (.map (some sm)), .raw (.pointer (some ⟨ib,0,none⟩)), .ar fv fl.length, .raw (.pointer (some ⟨qb,0,none⟩)), .raw (.map (some gm))] :: .map sm (entM V.str (V.int .i64) sb)::([]:Own)++F) fun d G=>∃ (v:Value) (l:List (YS×Int)),d = .ar v (l.map encU).length/\l=zav sb/\G = .arr 2 v (cells (l.map encU)) :: .blk b [.str nm, .raw (.map (some sm)), .raw (.pointer (some ⟨ib,0,none⟩)), .ar fv fl.length, .raw (.pointer (some ⟨qb,0,none⟩)), .raw (.map (some gm))] :: .map sm (entM V.str (V.int .i64) sb)::F:=by
 intro hA
 obtain ⟨hsl,hnd⟩:=hA
 refine DC.bodyS (n_:=25) (show Tryz.prog.funcs[146]? = some Tryz.f146 by kernel_rfl) rfl rfl (by rfl) ?_
 simp only [env0,zkR,List.map_nil,zao,List.cons_append,List.nil_append]
 have kw:=ksIs [0,2,3,4,5,10,12]
 have ow:=zaf []
 have hlk:True:=trivial
 have hC:True:=trivial
 repeat' (first
  | ((refine DOp.rangem_ rfl rfl ?_);(repeat (with_reducible first | refine OnM.here ?_ | refine OnM.next ?_ | (refine OnM.inN (by assumption) ?_;with_reducible intro C hC) | (refine OnM.inK (by assumption) ?_;with_reducible intro C hC) | refine OnM.skip ?_));(refine And.intro (by rw [zqL]) ?_);(with_reducible intro rI);refine zgN ?_)
  | ((refine DOp.entrym_ rfl rfl ?_);(repeat (with_reducible first | refine OnG.here ?_ | refine OnG.next ?_ | refine OnG.skip ?_));(refine ⟨_,rfl,?_⟩);refine zgN ?_)
  | ((refine DOp.nextm_ (t:=0) rfl rfl ?_);(repeat (with_reducible first | refine OnG.here ?_ | refine OnG.next ?_ | refine OnG.skip ?_));(refine zhQ (fun A x C hL=>?_) (fun hL=>?_))<;>(subst hL)<;>(refine zgN ?_))
  | ((with_reducible apply DW.unitE (r:=rI));(repeat (with_reducible first | refine Out.here ?_ | refine Out.next ?_ | refine Out.skip ?_));(with_reducible refine zqq ?_))
  | ((refine DW.own0 2 3 (by rfl) ?_);(simp only [zc1,zdn,Nat.reduceEqDiff,↓reduceIte,if_true,if_false,reduceCtorEq]);((with_reducible refine DW.loopB 0 (X:=UL×UL×Value×VM) (fun x=>(x.2.1++x.1).Perm sb) (fun x=>[(3, .ar x.2.2.1 x.2.1.length),(10, .raw (.pointer (some ⟨rI,0,none⟩)))]) (fun x=>[.arr 2 x.2.2.1 (cells (x.2.1.map encU)), .miter rI sm (entM V.str (V.int .i64) sb) (entM V.str (V.int .i64) x.1) x.2.2.2]) (fun x=>x.1.length) ((sb,[], .slice none 0 0,[])) ?_ ?_ ?_);exact (List.Perm.refl _);(exact kxcm);(try simp only [zkR,List.map_nil,zao,List.cons_append,List.nil_append]);refine pl_ ?_;intro ⟨Lf,O,v1,cur⟩ hI;(try simp only [zkR,List.map_nil,zao,List.cons_append,List.nil_append]);(try simp only at hI);have hOl:O.length<=1000000000:=by (have:=hI.length_eq;rw [List.length_append] at this;omega)))
  | refine g_ ?_
  | ((with_reducible refine And.intro ?_ ?_);(exact sv))
  | (refine DW.cond (by rfl) ?_ ?_<;>(first | exact i0_ | (intro hb;(try simp only [↓reduceCtorEq,not_true_eq_false,not_false_eq_true,hbs,Int.reduceBEq,Int.reduceBNe,Int.reduceEq] at hb);(try refine zgN ?_))))
  | ((with_reducible refine zaa ?_ ?_)<;>(intro hb;rw [hb];revert hb;(first | exact i0_ | (intro hb;(try simp only [↓reduceCtorEq,not_true_eq_false,not_false_eq_true,hbs,Int.reduceBEq,Int.reduceBNe,Int.reduceEq] at hb);(try refine zgN ?_)))))
  | ((refine Both.imp ?_ ?_)<;>(first | exact i0_ | (intro hb;(try simp only [↓reduceCtorEq,not_true_eq_false,not_false_eq_true,hbs,Int.reduceBEq,Int.reduceBNe,Int.reduceEq] at hb);(try refine zgN ?_))))
  | ((first | refine rn_ ?_ | refine kn_ ?_)<;>(refine zgN ?_))
  | ((first | (refine DOp.rangem_ rfl rfl ?_;(repeat (with_reducible first | refine OnM.here ?_ | refine OnM.next ?_))) | (refine DOp.nextm_ (t:=0) rfl rfl ?_;(repeat (with_reducible first | refine OnG.here ?_ | refine OnG.next ?_))) | (refine DOp.entrym_ rfl rfl ?_;(repeat (with_reducible first | refine OnG.here ?_ | refine OnG.next ?_))))<;>(refine zgN ?_))
  | (refine p_ (zp3 _ _ _ _) ?_;rintro d H1 ⟨l4,⟨hp4,hs4⟩,rfl,rfl⟩<;>refine zgN ?_)
  | ((refine on_ ?_);refine zgN ?_)
  | refine f_ ?_
  | ((fail_if_success (have zz:=v2));with_reducible intro v2)
  | with_reducible intro b)
 all_goals first
 | ((refine ⟨(A++C,O++[x],v2,[(.str x.1, .int .i64 x.2)]),zp4 hI,by (try simp only);simp only [List.length_append,List.length_cons];omega,by simp [Sub,get],?_⟩);((try dsimp only);(simp only [<-zkR,ze4]);(exact sub_));done)
 | ((have hl4:l4=zav sb:=zpy hnd (hp4.trans (by simpa using hI)) hs4);(refine ⟨_,_,le.of_eq ?_,⟨v1,l4,rfl,hl4,rfl⟩,?_⟩);(focus ((try rw [List.length_map]);rw [hp4.length_eq]));(exact sub_);done)
 | (trace_state;fail)
end
theorem ssubsX (x:SN) (F:Own):(SAOK x.a/\x.a.subs.length<=1000000000)->DC Tryz.prog 146 [.raw (.pointer (some ⟨x.b,0,none⟩))] (x.own++F) fun d G=>d = .sl ((zav x.a.subs).map encU)/\G=x.own++F:=by
 obtain ⟨b,sm,ib,um,qb,gm,fv,qv,lost,⟨nm,sb,tk,fl,q,got⟩⟩:=x
 rintro ⟨h,hl⟩
 refine DC.conv (DC.frzX (X:=List (YS×Int)) (Q:=fun x=>x=zav sb) (sz:=2) (l:=fun x=>x.map encU) (by decide) (fun x y hy=>by obtain ⟨z,_,rfl⟩:=List.mem_map.1 hy;rfl)
  ((znx b sm ib qb gm fv nm fl sb ([.map gm (entM (V.int .i64) V.bool (usI got)), .arr 7 fv (cells (fl.map encF)), .blk ib [.raw (.map (some um)), .int .i64 65535, .int .i64 tk], .map um (entM (V.int .i64) V.bool (usI (idsF fl))), .blk qb [.gs qv (q.map encM), .int .i64 8, .int .i64 lost], .tail 4 qv]++F) ⟨hl,h.subs⟩).mono fun d G hd=>by
    obtain ⟨v,l,h1,h2,h3⟩:=hd
    exact ⟨v,l,h1,h2,h3⟩)) kxbv ?_
 rintro d G ⟨l,rfl,rfl,rfl⟩
 refine ⟨_,_,le.rfl_,⟨rfl,rfl⟩,?_⟩
 (simp only [SN.own,SN.cs,List.cons_append,List.nil_append])
 exact sub_
end
end Go.Proofs.YtgekknefphagbaaGreatDoor
