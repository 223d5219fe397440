/- Which packets may be, exactly. -/
import Derived.Test.YtgekknefphagbaaGreatDoorNsx
import Derived.Test.YtgekknefphagbaaGreatDoorTex
import Derived.Test.YtgekknefphagbaaGreatDoorMpx
import Derived.KernelRfl
import Derived.Test.YtgekknefphagbaaGreatDoorPv2x
import Derived.Test.YtgekknefphagbaaGreatDoorEqx
namespace Go.Proofs.YtgekknefphagbaaGreatDoor
open Go.RowKit
set_option linter.unusedSimpArgs false
set_option linter.unusedVariables false
set_option linter.unusedSectionVars false
set_option maxHeartbeats 4000000
set_option maxRecDepth 100000
section
theorem DC.frz1 {P:Program} {f:FuncId} {args:List V} {H F:Own} {Q:YS->Prop}
  (h:DC P f args H fun d G=>∃ (v:Value) (x:YS),Q x/\d = .ar v x.length/\G = .arr 1 v (x.map u8)::F):DC P f args H fun d G=>∃ x:YS,Q x/\d = .sl (x.map u8)/\G=F :=
 (DC.frzX (F:=F) (X:=YS) (Q:=Q) (sz:=1) (l:=fun x=>x.map u8) (by decide) (fun x y hy=>by obtain ⟨z,_,rfl⟩:=List.mem_map.1 hy;rfl) (h.mono fun d G ⟨v,x,hq,hd,hG⟩=>⟨v,x,by rw [List.length_map];exact hd,hq,by rw [zaO];exact hG⟩)).mono fun d G ⟨x,hq,hd,hG⟩=>⟨x,hq,hd,hG⟩
theorem zdT (p:Pk) (F:Own):PkN p->DC Tryz.prog 139 [.agg [.int .i64 p.kind, .bool p.dup, .bool p.retain, .int .i64 p.qos, .int .i64 p.id, .str p.topic, .sl (p.payload.map u8), .int .i64 p.level, .str p.client, .bool p.clean, .int .i64 p.keep, .bool p.hasWill, .str p.wtopic, .sl (p.wpay.map u8), .int .i64 p.wqos, .bool p.wretain, .bool p.hasUser, .bool p.hasPass, .str p.user, .sl (p.pass.map u8), .bool p.present, .int .i64 p.code, .sl (p.subs.map encU), .sl (p.codes.map (V.int .i64))]] (([]:Own)++F) fun d G=>d = .sl ((zbi p).map u8)/\G=[]++F:=fun hp =>
 (DC.frz1 (Q:=fun x=>x=zbi p) ((zoU p F hp).mono fun d G ⟨v,hd,hG⟩=>⟨v,zbi p,rfl,hd,hG⟩)).mono fun d G ⟨x,hx,hd,hG⟩=>by subst hx;exact ⟨hd,hG⟩
def numM (p:Pk):Bool:=if p.kind=3 then decide (0<p.qos) else decide (4<=p.kind/\p.kind<=11)
theorem only_N {p:Pk} (h:PkN p):PkN (onlyM p):=by
 have z:∀ n,([]:YS).length<=n:=fun n=>Nat.zero_le _
 have d0:∀ k:Nat,((([]:List (YS×Int)).getD k default)).1.length<=100000:=fun k=>by simp [List.getD_eq_getElem?_getD];decide
 unfold onlyM
 split
 · exact ⟨z _,z _,h.client,zhh h.wtopic,zhh h.wpay,zhh h.user,zhh h.pass,Nat.zero_le _,d0,Nat.zero_le _⟩
 · split
   · exact ⟨z _,z _,z _,z _,z _,z _,z _,Nat.zero_le _,d0,Nat.zero_le _⟩
   · split
     · exact ⟨h.topic,h.payload,z _,z _,z _,z _,z _,Nat.zero_le _,d0,Nat.zero_le _⟩
     · split
       · exact ⟨z _,z _,z _,z _,z _,z _,z _,h.subs,h.flt,Nat.zero_le _⟩
       · split
         · exact ⟨z _,z _,z _,z _,z _,z _,z _,Nat.zero_le _,d0,h.codes⟩
         · split
           · exact ⟨z _,z _,z _,z _,z _,z _,z _,Nat.zero_le _,d0,Nat.zero_le _⟩
           · exact ⟨z _,z _,z _,z _,z _,z _,z _,Nat.zero_le _,d0,Nat.zero_le _⟩
noncomputable def preM (p:Pk):Bool:=inM p.kind 1 14&&zer p (onlyM p)&&(!numM p||inM p.id 1 65535)&&inM p.qos 0 2&&zdZ p.topic&&zdZ p.client&&zdZ p.user&&zdZ p.wtopic&&inM p.wqos 0 2&&decide ((p.wpay.length:Int)<=65535)&&decide ((p.pass.length:Int)<=65535)&&inM p.level 0 255&&inM p.keep 0 65535&&(!p.hasPass||p.hasUser)&&inM p.code 0 5&&(!p.present||decide (p.code=0))
def zlo (p:Pk) (x:YS×Int):Bool:=zdZ x.1&&inM x.2 0 2 && !(decide (p.kind=10)&&decide (x.2≠0))
def zcm (c:Int):Bool:=inM c 0 2||decide (c=128)
noncomputable def zal (p:Pk):Bool:=preM p&&p.subs.all (zlo p)&&p.codes.all zcm && !((decide (p.kind=8)||decide (p.kind=10))&&decide (p.subs.length=0)) && !(decide (p.kind=9)&&decide (p.codes.length=0))&&decide ((zbi p).length<=8192)
theorem zl6 {p:Pk} (h:preM p=false):zal p=false:=by unfold zal;rw [h];rfl
theorem zjD {α:Type} [Inhabited α] {l:List α} {k:Nat} (h:k<l.length):l.getD k default∈l:=by
 rw [List.getD_eq_getElem?_getD,List.getElem?_eq_getElem h];exact List.getElem_mem h
theorem zeL {α:Type} [Inhabited α] {f:α->Bool} {l:List α} {k:Nat} (h:(l.take k).all f=true) (hk:k<l.length) (e:f (l.getD k default)=true):(l.take (k+1)).all f=true:=by
 rw [zeg hk,List.all_append,h,List.all_cons,e];rfl
theorem zeV {α:Type} [Inhabited α] {f:α->Bool} {l:List α} {k:Nat} (hk:k<l.length) (e:f (l.getD k default)=false):l.all f=false:=by
 rw [List.all_eq_false]
 exact ⟨_,zjD hk,by rw [e];decide⟩
inductive Bx (T:Prop):Prop where
 | mk:T->Bx T
theorem Bx.out {T:Prop} (h:Bx T):T:=by cases h;assumption
theorem cut2_ {A T G:Prop} (h:Bx (A->T)->G) (t:A->T):G:=h ⟨t⟩
theorem DW.cutB {P:Program} {n:Nat} {Q:Exit->Env->Own->Prop} {e:Env} {H:Own} (id:Nat) (e':Env) {c:Code} (he:Sub e' e) (h:DW P n (.block id (.loop c)) Q e' H):DW P n (.block id (.loop c)) Q e H:=DW.sub e' he h
attribute [local irreducible] DW SeqD DV DOp DC DVX onlyM preM zal
theorem zha (p:Pk) (F:Own):(True)->DC Tryz.prog 184 [.agg [.int .i64 p.kind, .bool p.dup, .bool p.retain, .int .i64 p.qos, .int .i64 p.id, .str p.topic, .sl (p.payload.map u8), .int .i64 p.level, .str p.client, .bool p.clean, .int .i64 p.keep, .bool p.hasWill, .str p.wtopic, .sl (p.wpay.map u8), .int .i64 p.wqos, .bool p.wretain, .bool p.hasUser, .bool p.hasPass, .str p.user, .sl (p.pass.map u8), .bool p.present, .int .i64 p.code, .sl (p.subs.map encU), .sl (p.codes.map (V.int .i64))]] (([]:Own)++F) fun d G=>d = .bool (numM p)/\G=[]++F:=by
 intro hA
 refine DC.bodyS (n_:=19) (show Tryz.prog.funcs[184]? = some Tryz.f184 by kernel_rfl) rfl rfl (by rfl) ?_
 simp only [env0,List.cons_append,List.nil_append]
 have kw:=ksIs [0,1,2,4,5,10]
 have ow:=zaf []
 repeat' (first
  | refine g_ ?_
  | ((with_reducible refine And.intro ?_ ?_);(exact sv))
  | (refine DW.cond (by rfl) ?_ ?_<;>(first | exact i0_ | (refine ic_ ?_;intro hb)))
  | ((with_reducible refine zaa ?_ ?_)<;>(intro hb;rw [hb];revert hb;(first | exact i0_ | (refine i_ ?_;intro hb))))
  | refine r_ ?_
  | refine k_ ?_
  | refine o_ ?_
  | refine f_ ?_
  | with_reducible intro b)
 all_goals first
 | ((refine ⟨_,_,le.of_eq ?_,⟨rfl,rfl⟩,?_⟩);rotate_left;(exact sub_);congr 1;unfold numM;(simp_all<;>omega);done)
 | ((refine ⟨_,_,le.of_eq ?_,⟨rfl,rfl⟩,?_⟩);rotate_left;(exact sub_);congr 1;unfold numM;rw [Bool.eq_iff_iff];(simp_all<;>omega);done)
 | (trace_state;fail)
theorem zag {p:Prop} (h:p:=by first | exact sv | exact ⟨hp,only_N hp⟩ | exact hp | (have h1:=hp.topic;omega) | (have h1:=hp.client;omega) | (have h1:=hp.user;omega) | (have h1:=hp.wtopic;omega) | (have h1:=hp.flt k;omega) | fail):p:=h
section
attribute [local push_cast 2000] List.append_eq List.cons_append List.nil_append encU
theorem zjj (zb4:∀ (p q:Pk) (F:Own),(PkN p/\PkN q)->DC Tryz.prog 182 [.agg [.int .i64 p.kind, .bool p.dup, .bool p.retain, .int .i64 p.qos, .int .i64 p.id, .str p.topic, .sl (p.payload.map u8), .int .i64 p.level, .str p.client, .bool p.clean, .int .i64 p.keep, .bool p.hasWill, .str p.wtopic, .sl (p.wpay.map u8), .int .i64 p.wqos, .bool p.wretain, .bool p.hasUser, .bool p.hasPass, .str p.user, .sl (p.pass.map u8), .bool p.present, .int .i64 p.code, .sl (p.subs.map encU), .sl (p.codes.map (V.int .i64))], .agg [.int .i64 q.kind, .bool q.dup, .bool q.retain, .int .i64 q.qos, .int .i64 q.id, .str q.topic, .sl (q.payload.map u8), .int .i64 q.level, .str q.client, .bool q.clean, .int .i64 q.keep, .bool q.hasWill, .str q.wtopic, .sl (q.wpay.map u8), .int .i64 q.wqos, .bool q.wretain, .bool q.hasUser, .bool q.hasPass, .str q.user, .sl (q.pass.map u8), .bool q.present, .int .i64 q.code, .sl (q.subs.map encU), .sl (q.codes.map (V.int .i64))]] (([]:Own)++F) fun d G=>d = .bool (zer p q)/\G=[]++F) (p:Pk) (F:Own):(PkN p)->DC Tryz.prog 137 [.agg [.int .i64 p.kind, .bool p.dup, .bool p.retain, .int .i64 p.qos, .int .i64 p.id, .str p.topic, .sl (p.payload.map u8), .int .i64 p.level, .str p.client, .bool p.clean, .int .i64 p.keep, .bool p.hasWill, .str p.wtopic, .sl (p.wpay.map u8), .int .i64 p.wqos, .bool p.wretain, .bool p.hasUser, .bool p.hasPass, .str p.user, .sl (p.pass.map u8), .bool p.present, .int .i64 p.code, .sl (p.subs.map encU), .sl (p.codes.map (V.int .i64))]] (([]:Own)++F) fun d G=>d = .bool (zal p)/\G=[]++F:=by
 intro hA
 have hp:=hA
 refine DC.bodyS (n_:=201) (show Tryz.prog.funcs[137]? = some Tryz.f137 by kernel_rfl) rfl rfl (by rfl) ?_
 simp only [env0,List.cons_append,List.nil_append]
 have kw:=ksIs [0,1,2,3,4,76,110,115,149,154,171,196]
 have ow:=zaf []
 have dw1:=drIs 1 [] [1,2,5,6,7,8,12,13,16,17,23,24,29,30,35,36,41,42,48,49,55,56,62,68]
 have s1:=hp.subs;have s2:=hp.codes
 refine cut2_ (A:=preM p=true) (T:=?T) ?m ?t
 case m =>
  intro tail
  repeat' (first
   | ((with_reducible refine DW.cutB 0 [(1, .sp [.int .i64 p.kind, .bool p.dup, .bool p.retain, .int .i64 p.qos, .int .i64 p.id, .str p.topic, .sl (p.payload.map u8), .int .i64 p.level, .str p.client, .bool p.clean, .int .i64 p.keep, .bool p.hasWill, .str p.wtopic, .sl (p.wpay.map u8), .int .i64 p.wqos, .bool p.wretain, .bool p.hasUser, .bool p.hasPass, .str p.user, .sl (p.pass.map u8), .bool p.present, .int .i64 p.code, .sl (p.subs.map encU), .sl (p.codes.map (V.int .i64))]),(3, .int .i64 0)] ?_ ?_);(simp [Sub,get,zaW, *]<;>fail);exact tail.out (by clear tail zb4;unfold preM;(simp_all<;>(intros;omega))))
   | refine g_ ?_
   | ((with_reducible refine And.intro ?_ ?_);(exact zag))
   | (refine DW.cond (by rfl) ?_ ?_<;>(first | exact i0_ | (refine ic_ ?_;intro hb)))
   | ((with_reducible first | refine zaa ?_ ?_ | refine zai ?_ ?_)<;>(intro hb;rw [hb];revert hb;(first | exact i0_ | (refine i_ ?_;intro hb))))
   | refine r_ ?_
   | refine d_ ?_
   | refine k_ ?_
   | ((refine dm_ ?_);(first | ((first | refine v_ (zhx _ _ _ _) ?_ (ha:=by exact zag) | refine v_ (ze1 _ _) ?_ (ha:=by exact zag) | refine v_ (zf7 _ _) ?_ (ha:=by exact zag) | refine v_ (zb4 _ _ _) ?_ (ha:=by exact zag))) | (refine v_ (zha _ _) ?_ (ha:=by exact zag)) | (refine v_ (zdT _ _) ?_ (ha:=by exact zag))))
   | refine vo_ ?_
   | ((first | refine q_ (zhx _ _ _ _) ?_ (ha:=by exact zag) | refine q_ (ze1 _ _) ?_ (ha:=by exact zag) | refine q_ (zf7 _ _) ?_ (ha:=by exact zag) | refine q_ (zb4 _ _ _) ?_ (ha:=by exact zag)))
   | (refine q_ (zha _ _) ?_ (ha:=by exact zag))
   | (refine q_ (zdT _ _) ?_ (ha:=by exact zag))
   | refine o_ ?_
   | refine f_ ?_
   | refine vm_ ?_
   | with_reducible intro b)
  all_goals first
  | ((refine ⟨_,_,le.of_eq ?_,⟨rfl,rfl⟩,?_⟩);rotate_left;(exact sub_);(rw [zl6 (by clear tail zb4;unfold preM;(simp_all<;>(intros;omega)))]);done)
  | (trace_state;fail)
 case t =>
  intro hpre
  repeat' (first
   | ((with_reducible refine DW.loopB 0 (X:=Nat) (fun x=>x<=p.subs.length/\(p.subs.take x).all (zlo p)=true) (fun x=>[(1, .sp [.int .i64 p.kind, .bool p.dup, .bool p.retain, .int .i64 p.qos, .int .i64 p.id, .str p.topic, .sl (p.payload.map u8), .int .i64 p.level, .str p.client, .bool p.clean, .int .i64 p.keep, .bool p.hasWill, .str p.wtopic, .sl (p.wpay.map u8), .int .i64 p.wqos, .bool p.wretain, .bool p.hasUser, .bool p.hasPass, .str p.user, .sl (p.pass.map u8), .bool p.present, .int .i64 p.code, .sl (p.subs.map encU), .sl (p.codes.map (V.int .i64))]),(3, .int .i64 x)]) (fun x=>([]:Own)) (fun x=>p.subs.length - x) (0) ?_ ?_ ?_);exact (⟨Nat.zero_le _,rfl⟩);(simp [Sub,get,zaW, *]<;>fail);(try simp only [List.cons_append,List.nil_append]);refine pl_ ?_;intro k ⟨hk,hks⟩;(try simp only [List.cons_append,List.nil_append]);(try simp only at hk hks))
   | ((with_reducible refine DW.loopB 2 (X:=Nat) (fun x=>x<=p.codes.length/\(p.codes.take x).all zcm=true) (fun x=>[(1, .sp [.int .i64 p.kind, .bool p.dup, .bool p.retain, .int .i64 p.qos, .int .i64 p.id, .str p.topic, .sl (p.payload.map u8), .int .i64 p.level, .str p.client, .bool p.clean, .int .i64 p.keep, .bool p.hasWill, .str p.wtopic, .sl (p.wpay.map u8), .int .i64 p.wqos, .bool p.wretain, .bool p.hasUser, .bool p.hasPass, .str p.user, .sl (p.pass.map u8), .bool p.present, .int .i64 p.code, .sl (p.subs.map encU), .sl (p.codes.map (V.int .i64))]),(4, .int .i64 x)]) (fun x=>([]:Own)) (fun x=>p.codes.length - x) (0) ?_ ?_ ?_);exact (⟨Nat.zero_le _,rfl⟩);(simp [Sub,get,zaW, *]<;>fail);(try simp only [List.cons_append,List.nil_append]);refine pl_ ?_;intro i ⟨hi,his⟩;(try simp only [List.cons_append,List.nil_append]);(try simp only at hi his))
   | refine g_ ?_
   | ((with_reducible refine And.intro ?_ ?_);(exact zag))
   | (refine DW.cond (by rfl) ?_ ?_<;>(first | exact i0_ | (refine ic_ ?_;intro hb)))
   | ((with_reducible first | refine zaa ?_ ?_ | refine zai ?_ ?_)<;>(intro hb;rw [hb];revert hb;(first | exact i0_ | (refine i_ ?_;intro hb))))
   | refine r_ ?_
   | refine d_ ?_
   | refine k_ ?_
   | ((refine dm_ ?_);(first | ((first | refine v_ (zhx _ _ _ _) ?_ (ha:=by exact zag) | refine v_ (ze1 _ _) ?_ (ha:=by exact zag) | refine v_ (zf7 _ _) ?_ (ha:=by exact zag) | refine v_ (zb4 _ _ _) ?_ (ha:=by exact zag))) | (refine v_ (zha _ _) ?_ (ha:=by exact zag)) | (refine v_ (zdT _ _) ?_ (ha:=by exact zag))))
   | refine vo_ ?_
   | ((first | refine q_ (zhx _ _ _ _) ?_ (ha:=by exact zag) | refine q_ (ze1 _ _) ?_ (ha:=by exact zag) | refine q_ (zf7 _ _) ?_ (ha:=by exact zag) | refine q_ (zb4 _ _ _) ?_ (ha:=by exact zag)))
   | (refine q_ (zha _ _) ?_ (ha:=by exact zag))
   | (refine q_ (zdT _ _) ?_ (ha:=by exact zag))
   | refine o_ ?_
   | refine f_ ?_
   | refine vm_ ?_
   | with_reducible intro b)
  all_goals first
  | ((refine ⟨_,_,le.of_eq ?_,⟨rfl,rfl⟩,?_⟩);rotate_left;(exact sub_);(rw [show zal p=false from by unfold zal;rw [zeV (f:=zlo p) (k:=k) (by omega) (by clear zb4;unfold zlo;simp_all)];simp]);done)
  | ((refine ⟨_,_,le.of_eq ?_,⟨rfl,rfl⟩,?_⟩);rotate_left;(exact sub_);(rw [show zal p=false from by unfold zal;rw [zeV (f:=zcm) (k:=i) (by omega) (by clear zb4;unfold zcm;simp_all)];simp]);done)
  | ((refine ⟨_,_,le.of_eq ?_,⟨rfl,rfl⟩,?_⟩);rotate_left;(exact sub_);(have es:p.subs.all (zlo p)=true:=by rwa [List.take_of_length_le (by omega)] at hks);(have ec:p.codes.all zcm=true:=by rwa [List.take_of_length_le (by omega)] at his);(congr 1);(unfold zal);(rw [hpre,es,ec]);(rw [Bool.eq_iff_iff]);(clear zb4);(simp_all<;>omega);done)
  | (refine ⟨k+1,⟨by (try simp only);omega,zeL hks (by omega) (by clear zb4;unfold zlo;simp_all)⟩,by (try simp only);omega,by simp [Sub,get],?_⟩;((try dsimp only);(exact sub_));done)
  | (refine ⟨i+1,⟨by (try simp only);omega,zeL his (by omega) (by clear zb4;unfold zcm;simp_all)⟩,by (try simp only);omega,by simp [Sub,get],?_⟩;((try dsimp only);(exact sub_));done)
  | (trace_state;fail)
end
end
section
def zko (p:Pk):Int:=if p.kind=6\/p.kind=8\/p.kind=10 then 2 else if p.kind=3 then (if p.dup=true then 8 else 0)+2 * p.qos+(if p.retain=true then 1 else 0) else 0
def ze8 (p:Pk):UInt8:=zbn (16 * p.kind+zko p)
noncomputable def putM (p:Pk):YS:=if zal p=true then ze8 p::(varM (zbi p).length++zbi p) else []
theorem zhH {p:Pk} (h:zal p=true):(zbi p).length<=8192:=by
 unfold zal at h
 simp only [Bool.and_eq_true,decide_eq_true_eq] at h
 exact h.2
theorem DC.frzQ {P:Program} {f:FuncId} {args:List V} {H F:Own} {Q:YS->Int->Prop}
  (h:DC P f args H fun d G=>(∃ e:Int,Q [] e/\d = .tup [.gs (.slice none 0 0) [], .int .i64 e]/\G=F)\/∃ (v:Value) (x:YS) (e:Int),Q x e/\d = .tup [.ar v x.length, .int .i64 e]/\G = .arr 1 v (x.map u8)::F):DC P f args H fun d G=>∃ (x:YS) (e:Int),Q x e/\d = .tup [.sl (x.map u8), .int .i64 e]/\G=F :=
 ⟨h.1,fun xs w hs hn hr=>(h.2 xs w hs hn hr).mono fun e0 w' ⟨u,d,H',he,s,ex,r,hd⟩=>by
   rcases hd with ⟨e,hq,hd,hG⟩ | ⟨v,x,e,hq,hd,hG⟩
   · subst hd hG
     exact ⟨u, .tup [.sl (([]:YS).map u8), .int .i64 e],_,he,s,ex,le.tup (Les.cons (le.gs rfl) (Les.cons le.rfl_ Les.nil)) _ _ _ r,[],e,hq,rfl,rfl⟩
   · subst hd hG
     obtain ⟨⟨g1,g2⟩,g3⟩:=Sim.frz (L1:=[]) (l:=x.map u8) (by rw [zaO];exact s) (by decide) (fun y hy=>by obtain ⟨z,_,rfl⟩:=List.mem_map.1 hy;rfl)
     rw [zaO] at g2
     have k1:Ext w' (.tail 1 v::F) w' F:=Ext.drop fun x hx=>List.mem_cons_of_mem _ hx
     have r1:R (stable w' F) w' u (.tup [.gs v (x.map u8), .int .i64 e]):=(R.cv g3 (Cv.tupL (CvL.cons (Cv.hit _) (CvL.cons (Cv.rfl _) CvL.nil))) (g2.rel r)).mono k1.cells
     exact ⟨u, .tup [.sl (x.map u8), .int .i64 e],F,he,g1.drop (List.sublist_cons_self _ _),(ex.trans g2).trans k1,le.tup (Les.cons (le.gs rfl) (Les.cons le.rfl_ Les.nil)) _ _ _ r1,x,e,hq,rfl,rfl⟩⟩
theorem zjR {b:Value} {v:V} {p:Pk} {F:Own} (hr:zal p=true) (hv:v=u8 (ze8 p)):∃ d' G,le (V.tup [.ar b (1+(varM (zbi p).length).length+(zbi p).length), .int .i64 0]) d'/\((∃ e:Int,(putM p=[]/\e=if zal p=true then 0 else 26)/\d'=V.tup [.gs (.slice none 0 0) [], .int .i64 e]/\G=F)\/∃ (v:Value) (x:YS) (e:Int),(putM p=x/\e=if zal p=true then 0 else 26)/\d'=V.tup [.ar v x.length, .int .i64 e]/\G = .arr 1 v (x.map u8)::F)/\SubP G (.arr 1 b (v::((varM (zbi p).length).map u8++(zbi p).map u8))::F):=by
 subst hv
 have e0:putM p=ze8 p::(varM (zbi p).length++zbi p):=by unfold putM;rw [if_pos hr]
 have e1:1+(varM (zbi p).length).length+(zbi p).length=(ze8 p::(varM (zbi p).length++zbi p)).length:=by simp;omega
 have e2:u8 (ze8 p)::((varM (zbi p).length).map u8++(zbi p).map u8)=(ze8 p::(varM (zbi p).length++zbi p)).map u8:=by simp
 rw [e1,e2]
 exact ⟨_,_,le.rfl_, .inr ⟨b,_,0,⟨e0,by rw [if_pos hr]⟩,rfl,rfl⟩,SubP.refl⟩
attribute [local irreducible] DW SeqD DV DOp DC DVX varM zal zbi
theorem zb7 {p:Prop} (h:p:=by first | exact sv | exact hp | (have hl8:=zhH (p:=p) (by assumption);have hv4:=zdR (zbi p).length;have hz4:=zf6 (zbi p).length;first | omega | (simp [u8,V.one,V.n];omega)) | (simp [u8,V.one,V.n]<;>fail) | fail):p:=h
section
attribute [local push_cast 2000] zaO
theorem zns (right3E_dc:∀ (p:Pk) (F:Own),PkN p->DC Tryz.prog 137 [.agg [.int .i64 p.kind, .bool p.dup, .bool p.retain, .int .i64 p.qos, .int .i64 p.id, .str p.topic, .sl (p.payload.map u8), .int .i64 p.level, .str p.client, .bool p.clean, .int .i64 p.keep, .bool p.hasWill, .str p.wtopic, .sl (p.wpay.map u8), .int .i64 p.wqos, .bool p.wretain, .bool p.hasUser, .bool p.hasPass, .str p.user, .sl (p.pass.map u8), .bool p.present, .int .i64 p.code, .sl (p.subs.map encU), .sl (p.codes.map (V.int .i64))]] (([]:Own)++F) fun d G=>d = .bool (zal p)/\G=[]++F) (p:Pk) (F:Own):(PkN p)->DC Tryz.prog 78 [.agg [.int .i64 p.kind, .bool p.dup, .bool p.retain, .int .i64 p.qos, .int .i64 p.id, .str p.topic, .sl (p.payload.map u8), .int .i64 p.level, .str p.client, .bool p.clean, .int .i64 p.keep, .bool p.hasWill, .str p.wtopic, .sl (p.wpay.map u8), .int .i64 p.wqos, .bool p.wretain, .bool p.hasUser, .bool p.hasPass, .str p.user, .sl (p.pass.map u8), .bool p.present, .int .i64 p.code, .sl (p.subs.map encU), .sl (p.codes.map (V.int .i64))]] (([]:Own)++F) fun d G=>(∃ e:Int,(putM p=[]/\e=if zal p=true then 0 else 26)/\d = .tup [.gs (.slice none 0 0) [], .int .i64 e]/\G=F)\/∃ (v:Value) (x:YS) (e:Int),(putM p=x/\e=if zal p=true then 0 else 26)/\d = .tup [.ar v x.length, .int .i64 e]/\G = .arr 1 v (x.map u8)::F:=by
 intro hA
 have hp:=hA
 refine DC.bodyS (n_:=49) (show Tryz.prog.funcs[78]? = some Tryz.f78 by kernel_rfl) rfl rfl (by rfl) ?_
 simp only [env0,List.cons_append,List.nil_append]
 have kw:=ksIs [0,1,2,3,4,5,6,10,12,13,17]
 have ow:=zaf [44]
 have dw10:=drIs 10 [] [1,2,4,8,9]
 repeat' (first
  | refine g_ ?_
  | ((with_reducible refine And.intro ?_ ?_);(exact zb7))
  | (refine DW.cond (by rfl) ?_ ?_<;>(first | exact i0_ | (refine ic_ ?_;intro hb)))
  | ((with_reducible first | refine zaa ?_ ?_ | refine zai ?_ ?_)<;>(intro hb;rw [hb];revert hb;(first | exact i0_ | (refine i_ ?_;intro hb))))
  | refine r_ ?_
  | refine d_ ?_
  | refine k_ ?_
  | ((refine dm_ ?_);(first | (refine v_ (right3E_dc _ _) ?_ (ha:=by exact zb7)) | ((first | refine v_ (zjH _ _ _) ?_ (ha:=by exact zb7) | refine v_ (zdT _ _) ?_ (ha:=by exact zb7)))))
  | refine vo_ ?_
  | ((first | (refine DOp.lista_ [44] rfl rfl ?_) | (refine DOp.makea_ [44] rfl rfl rfl rfl ?_))<;>(refine s_ ?_))
  | (refine q_ (right3E_dc _ _) ?_ (ha:=by exact zb7))
  | ((first | refine q_ (zjH _ _ _) ?_ (ha:=by exact zb7) | refine q_ (zdT _ _) ?_ (ha:=by exact zb7)))
  | (refine p_ (putE_dc _ _) ?_ (ha:=by exact zb7);rintro d H1 ⟨e1,he1,rfl,rfl⟩<;>refine s_ ?_)
  | refine o_ ?_
  | refine f_ ?_
  | refine vm_ ?_
  | with_reducible intro b)
 all_goals first
 | (refine ⟨_,_,le.rfl_, .inl ⟨_,⟨by unfold putM;simp [*],by simp [*]⟩,rfl,rfl⟩,?_⟩;(exact sub_);done)
 | ((refine zjR (by assumption) ?_);(rw [zci]);congr 1;unfold ze8 zko;(simp only [*,↓reduceIte,Int.reduceEq,or_self,or_true,true_or,or_false,false_or,if_true,if_false]);(apply zgi);(simp [IntKind.wrap,IntKind.bits,IntKind.signed]<;>omega);done)
 | ((refine zjR (by assumption) ?_);(rw [zoA (by omega)]);congr 1;unfold ze8 zko;(simp only [*,↓reduceIte,Int.reduceEq,or_self,or_true,true_or,or_false,false_or,if_true,if_false]);done)
 | (trace_state;fail)
end
end
section
theorem zfa (p:List UInt8):(p==p)=true:=by simp
theorem zeK (p:Int):(p==p)=true:=by simp
theorem zeJ (p:Int):(p != p)=false:=by simp
theorem zeT (p:List UInt8):(p != p)=false:=by simp
theorem zpU {p:Pk} (h:numM p=true):(p.kind=3/\0<p.qos)\/(p.kind≠3/\4<=p.kind/\p.kind<=11):=by
 unfold numM at h;split at h
 · exact .inl ⟨by assumption,by simpa using h⟩
 · exact .inr ⟨by assumption,by simpa using h⟩
theorem zqm {p:Pk} (h:numM p=false):(p.kind=3/\¬ 0<p.qos)\/(p.kind≠3/\(p.kind<4\/11<p.kind)):=by
 unfold numM at h;split at h
 · exact .inl ⟨by assumption,by simpa using h⟩
 · refine .inr ⟨by assumption,?_⟩
   simp only [decide_eq_false_iff_not] at h
   omega
attribute [local irreducible] DW SeqD DV DOp DC DVX chkB
theorem zk4 (v a b:Int) (F:Own):(True)->DC Tryz.prog 196 [.int .i64 v, .int .i64 a, .int .i64 b] (([]:Own)++F) fun d G=>d = .bool (inM v a b)/\G=[]++F:=by
 intro hA
 refine DC.bodyS (n_:=15) (show Tryz.prog.funcs[196]? = some Tryz.f196 by kernel_rfl) rfl rfl (by rfl) ?_
 simp only [env0,List.cons_append,List.nil_append]
 have kw:=ksIs [0,1,2,6]
 have ow:=zaf []
 repeat' (first
  | refine g_ ?_
  | ((with_reducible refine And.intro ?_ ?_);(exact sv))
  | (refine DW.cond (by rfl) ?_ ?_<;>(first | exact i0_ | (refine ic_ ?_;intro hb)))
  | ((with_reducible refine zaa ?_ ?_)<;>(intro hb;rw [hb];revert hb;(first | exact i0_ | (refine i_ ?_;intro hb))))
  | refine r_ ?_
  | refine k_ ?_
  | refine o_ ?_
  | refine f_ ?_
  | with_reducible intro b)
 all_goals first
 | ((refine ⟨_,_,le.of_eq ?_,⟨rfl,rfl⟩,SubP.refl⟩);congr 1;rw [Bool.eq_iff_iff];(simp [inM]<;>omega);done)
 | (trace_state;fail)
section
attribute [local push_cast 2000] zbw zbl
theorem zpe (l:YS) (F:Own):(l.length<=1000000000)->DC Tryz.prog 249 [.str l] ([knF,knA]++F) fun d G=>d = .bool (zdZ l)/\G=[knF,knA]++F:=by
 intro hA
 have hl:=hA
 refine DC.bodyS (n_:=12) (show Tryz.prog.funcs[249]? = some Tryz.f249 by kernel_rfl) rfl rfl (by rfl) ?_
 simp only [env0,List.cons_append,List.nil_append]
 have kw:=ksIs [0,2]
 have ow:=zaf []
 repeat' (first
  | refine g_ ?_
  | ((with_reducible refine And.intro ?_ ?_);(exact sv))
  | (refine DW.cond (by rfl) ?_ ?_<;>(first | exact i0_ | (refine ic_ ?_;intro hb)))
  | ((with_reducible refine zaa ?_ ?_)<;>(intro hb;rw [hb];revert hb;(first | exact i0_ | (refine i_ ?_;intro hb))))
  | refine r_ ?_
  | refine k_ ?_
  | (refine p_ (zpI _ _) ?_;rintro d H1 ⟨i1,rfl,hi1,rfl⟩<;>refine s_ ?_)
  | refine o_ ?_
  | refine f_ ?_
  | with_reducible intro b)
 all_goals first
 | ((refine ⟨_,_,le.of_eq ?_,⟨rfl,rfl⟩,?_⟩);rotate_left;(exact sub_);congr 1;unfold zdZ;(try rw [<-hi1]);rw [Bool.eq_iff_iff];(simp_all<;>omega);done)
 | (trace_state;fail)
end
theorem zf0 (b:Bool) (n:Int) (F:Own):(True)->DC Tryz.prog 201 [.bool b, .int .i64 n] (([]:Own)++F) fun d G=>d = .int .i64 (if b=true then n else 0)/\G=[]++F:=by
 intro hA
 refine DC.bodyS (n_:=7) (show Tryz.prog.funcs[201]? = some Tryz.f201 by kernel_rfl) rfl rfl (by rfl) ?_
 simp only [env0,List.cons_append,List.nil_append]
 have kw:=ksIs [0,1,4,5]
 have ow:=zaf []
 repeat' (first
  | refine g_ ?_
  | ((with_reducible refine And.intro ?_ ?_);(exact sv))
  | (refine DW.cond (by rfl) ?_ ?_<;>(first | exact i0_ | (refine ic_ ?_;intro hb)))
  | ((with_reducible refine zaa ?_ ?_)<;>(intro hb;rw [hb];revert hb;(first | exact i0_ | (refine i_ ?_;intro hb))))
  | refine r_ ?_
  | refine k_ ?_
  | refine o_ ?_
  | refine f_ ?_
  | with_reducible intro b)
 all_goals first
 | ((simp only [hb,↓reduceIte,Bool.false_eq_true];(first | exact fin_ | refine finq_ ?_);done))
 | (trace_state;fail)
theorem zlr {p:Prop} (h:p:=by first | exact sv | (simp [u8,V.one,V.n];omega) | (simp [u8,V.one,V.n]<;>fail) | fail):p:=h
section
attribute [local push_cast 2000] zaO
theorem znL (v:Value) (n:Nat) (l:YS) (z:Int) (F:Own):(n=l.length/\l.length<=2000000000)->DC Tryz.prog 204 [.ar v n, .int .i64 z] (.arr 1 v (l.map u8)::([]:Own)++F) fun d G=>∃ v':Value,d = .ar v' (l++twoM z).length/\G = .arr 1 v' ((l++twoM z).map u8)::F:=by
 intro hA
 obtain ⟨hn,hl⟩:=hA
 refine DC.bodyS (n_:=13) (show Tryz.prog.funcs[204]? = some Tryz.f204 by kernel_rfl) rfl rfl (by rfl) ?_
 simp only [env0,List.cons_append,List.nil_append]
 have kw:=ksIs [0,1,4]
 have ow:=zaf []
 repeat' (first
  | refine g_ ?_
  | ((with_reducible refine And.intro ?_ ?_);(exact zlr))
  | (refine DW.cond (by rfl) ?_ ?_<;>(first | exact i0_ | (refine ic_ ?_;intro hb)))
  | ((with_reducible refine zaa ?_ ?_)<;>(intro hb;rw [hb];revert hb;(first | exact i0_ | (refine i_ ?_;intro hb))))
  | refine r_ ?_
  | refine k_ ?_
  | refine o_ ?_
  | refine f_ ?_
  | with_reducible intro b)
 all_goals first
 | ((rw [<-zh0]);refine ⟨_,_,le.of_eq ?_,⟨b,rfl,rfl⟩,?_⟩;(rw [hn];simp [za0]);(exact sub_);done)
 | (trace_state;fail)
end
section
attribute [local push_cast 2000] zaO zaR zas
theorem zk1 (z:Int) (F:Own):(True)->DC Tryz.prog 204 [.gs (.slice none 0 0) [], .int .i64 z] (([]:Own)++F) fun d G=>∃ v':Value,d = .ar v' (twoM z).length/\G = .arr 1 v' ((twoM z).map u8)::F:=by
 intro hA
 refine DC.bodyS (n_:=13) (show Tryz.prog.funcs[204]? = some Tryz.f204 by kernel_rfl) rfl rfl (by rfl) ?_
 simp only [env0,List.cons_append,List.nil_append]
 have kw:=ksIs [0,1,4]
 have ow:=zaf []
 repeat' (first
  | refine g_ ?_
  | ((with_reducible refine And.intro ?_ ?_);(exact sv_twoNW_dc))
  | (refine DW.cond (by rfl) ?_ ?_<;>(first | exact i0_ | (refine ic_ ?_;intro hb)))
  | ((with_reducible refine zaa ?_ ?_)<;>(intro hb;rw [hb];revert hb;(first | exact i0_ | (refine i_ ?_;intro hb))))
  | refine r_ ?_
  | refine k_ ?_
  | ((first | (refine DOp.app0a_ [12] rfl rfl rfl rfl (by intro h;cases h) ?_))<;>(refine s_ ?_))
  | refine o_ ?_
  | refine f_ ?_
  | with_reducible intro b)
 all_goals first
 | ((have e:=zh0 [] z);(simp only [List.map_nil,List.nil_append] at e ⊢);(rw [<-e]);refine ⟨_,_,le.of_eq ?_,⟨b,rfl,rfl⟩,?_⟩;rfl;(exact sub_);done)
 | (trace_state;fail)
end
section
attribute [local push_cast 2000] zaO za0
end
theorem zft {p:Prop} (h:p:=by first | exact sv | (simp [u8,V.one,V.n];omega) | (simp [u8,V.one,V.n]<;>fail) | fail):p:=h
section
attribute [local push_cast 2000] zaO za0
theorem zil (t:YS) (F:Own):(t.length<=1000000000)->DC Tryz.prog 202 [.gs (.slice none 0 0) [], .str t] (([]:Own)++F) fun d G=>∃ v':Value,d = .ar v' (zbB t).length/\G = .arr 1 v' ((zbB t).map u8)::F:=by
 intro hA
 have ht:=hA
 refine DC.bodyS (n_:=11) (show Tryz.prog.funcs[202]? = some Tryz.f202 by kernel_rfl) rfl rfl (by rfl) ?_
 simp only [env0,List.cons_append,List.nil_append]
 have kw:=ksIs [0,1,4]
 have ow:=zaf []
 repeat' (first
  | refine g_ ?_
  | ((with_reducible refine And.intro ?_ ?_);(exact zft))
  | (refine DW.cond (by rfl) ?_ ?_<;>(first | exact i0_ | (refine ic_ ?_;intro hb)))
  | ((with_reducible refine zaa ?_ ?_)<;>(intro hb;rw [hb];revert hb;(first | exact i0_ | (refine i_ ?_;intro hb))))
  | refine r_ ?_
  | refine k_ ?_
  | (refine p_ (zk1 _ _) ?_ (ha:=by exact zft);rintro d H1 ⟨v1,rfl,rfl⟩<;>refine s_ ?_)
  | refine o_ ?_
  | refine f_ ?_
  | with_reducible intro b)
 all_goals first
 | ((rw [zi8]);refine ⟨_,_,le.of_eq ?_,⟨b,rfl,rfl⟩,?_⟩;(rw [za3]);(exact sub_);done)
 | (trace_state;fail)
end
theorem zed (p:Pk) (F:Own):(True)->DC Tryz.prog 203 [.agg [.int .i64 p.kind, .bool p.dup, .bool p.retain, .int .i64 p.qos, .int .i64 p.id, .str p.topic, .sl (p.payload.map u8), .int .i64 p.level, .str p.client, .bool p.clean, .int .i64 p.keep, .bool p.hasWill, .str p.wtopic, .sl (p.wpay.map u8), .int .i64 p.wqos, .bool p.wretain, .bool p.hasUser, .bool p.hasPass, .str p.user, .sl (p.pass.map u8), .bool p.present, .int .i64 p.code, .sl (p.subs.map encU), .sl (p.codes.map (V.int .i64))]] (([]:Own)++F) fun d G=>d = .bool (numM p)/\G=[]++F:=by
 intro hA
 refine DC.bodyS (n_:=19) (show Tryz.prog.funcs[203]? = some Tryz.f203 by kernel_rfl) rfl rfl (by rfl) ?_
 simp only [env0,List.cons_append,List.nil_append]
 have kw:=ksIs [0,1,2,4,5,10]
 have ow:=zaf []
 repeat' (first
  | refine g_ ?_
  | ((with_reducible refine And.intro ?_ ?_);(exact sv))
  | (refine DW.cond (by rfl) ?_ ?_<;>(first | exact i0_ | (refine ic_ ?_;intro hb)))
  | ((with_reducible refine zaa ?_ ?_)<;>(intro hb;rw [hb];revert hb;(first | exact i0_ | (refine i_ ?_;intro hb))))
  | refine r_ ?_
  | refine k_ ?_
  | refine o_ ?_
  | refine f_ ?_
  | with_reducible intro b)
 all_goals first
 | ((refine ⟨_,_,le.of_eq ?_,⟨rfl,rfl⟩,?_⟩);rotate_left;(exact sub_);congr 1;unfold numM;(simp_all<;>omega);done)
 | ((refine ⟨_,_,le.of_eq ?_,⟨rfl,rfl⟩,?_⟩);rotate_left;(exact sub_);congr 1;unfold numM;rw [Bool.eq_iff_iff];(simp_all<;>omega);done)
 | (trace_state;fail)
section
attribute [local push_cast 2000] zbw zbl zfa zeK zeJ zeT
theorem zj4 (l:YS) (F:Own):(True)->DC Tryz.prog 244 [.sl (l.map u8), .sl (l.map u8)] (([]:Own)++F) fun d G=>d = .bool true/\G=[]++F:=by
 intro hA
 refine DC.bodyS (n_:=10) (show Tryz.prog.funcs[244]? = some Tryz.f244 by kernel_rfl) rfl rfl (by rfl) ?_
 simp only [env0,List.cons_append,List.nil_append]
 have kw:=ksIs [0,1,4]
 have ow:=zaf []
 repeat' (first
  | refine g_ ?_
  | ((with_reducible refine And.intro ?_ ?_);(exact sv))
  | (refine DW.cond (by rfl) ?_ ?_<;>(first | exact i0_ | (refine ic_ ?_;intro hb)))
  | ((with_reducible refine zaa ?_ ?_)<;>(intro hb;rw [hb];revert hb;(first | exact i0_ | (refine i_ ?_;intro hb))))
  | refine r_ ?_
  | refine k_ ?_
  | refine o_ ?_
  | refine f_ ?_
  | with_reducible intro b)
 (first | exact fin_ | refine finq_ ?_)
 all_goals rfl
end
section
attribute [local push_cast 2000] zbw zbl zfa zeK zeJ zeT
theorem eqsI_dc (l:List Int) (F:Own):(l.length<=1000000)->DC Tryz.prog 248 [.sl (l.map (V.int .i64)), .sl (l.map (V.int .i64))] (([]:Own)++F) fun d G=>d = .bool true/\G=[]++F:=by
 intro hA
 have hl:=hA
 refine DC.bodyS (n_:=26) (show Tryz.prog.funcs[248]? = some Tryz.f248 by kernel_rfl) rfl rfl (by rfl) ?_
 simp only [env0,List.cons_append,List.nil_append]
 have kw:=ksIs [0,1,4,5,10,12,13,14,24]
 have ow:=zaf []
 have dw6:=drIs 6 [] [3,7]
 repeat' (first
  | ((with_reducible refine DW.loopB 0 (X:=Nat) (fun x=>x<=l.length) (fun x=>[(0, .sl (l.map (V.int .i64))),(1, .sl (l.map (V.int .i64))),(12, .int .i64 l.length),(13, .int .i64 x)]) (fun x=>([]:Own)) (fun x=>l.length - x) (0) ?_ ?_ ?_);exact (Nat.zero_le _);(simp [Sub,get,zaW]<;>fail);(try simp only [List.cons_append,List.nil_append]);refine pl_ ?_;intro k hk;(try simp only [List.cons_append,List.nil_append]);(try simp only at hk))
  | refine g_ ?_
  | ((with_reducible refine And.intro ?_ ?_);(exact sv))
  | (refine DW.cond (by rfl) ?_ ?_<;>(first | exact i0_ | (refine ic_ ?_;intro hb)))
  | ((with_reducible first | refine zaa ?_ ?_ | refine zai ?_ ?_)<;>(intro hb;rw [hb];revert hb;(first | exact i0_ | (refine i_ ?_;intro hb))))
  | refine r_ ?_
  | refine d_ ?_
  | refine k_ ?_
  | refine vo_ ?_
  | refine o_ ?_
  | refine f_ ?_
  | refine vm_ ?_
  | with_reducible intro b)
 all_goals first
 | ((first | exact fin_ | refine finq_ ?_);done)
 | (refine ⟨k+1,?_,?_,?_,?_⟩;(((try simp only);omega));(((try simp only);omega));(simp [Sub,get]<;>(fail));(try dsimp only);(exact sub_);done)
 | (trace_state;fail)
end
section
attribute [local push_cast 2000] zbw zbl zfa zeK zeJ zeT encU
theorem eqsU_dc (l:List (YS×Int)) (F:Own):(l.length<=1000000)->DC Tryz.prog 247 [.sl (l.map encU), .sl (l.map encU)] (([]:Own)++F) fun d G=>d = .bool true/\G=[]++F:=by
 intro hA
 have hl:=hA
 refine DC.bodyS (n_:=26) (show Tryz.prog.funcs[247]? = some Tryz.f247 by kernel_rfl) rfl rfl (by rfl) ?_
 simp only [env0,List.cons_append,List.nil_append]
 have kw:=ksIs [0,1,4,5,10,12,13,14,24]
 have ow:=zaf []
 have dw6:=drIs 6 [] [3,7]
 repeat' (first
  | ((with_reducible refine DW.loopB 0 (X:=Nat) (fun x=>x<=l.length) (fun x=>[(0, .sl (l.map encU)),(1, .sl (l.map encU)),(12, .int .i64 l.length),(13, .int .i64 x)]) (fun x=>([]:Own)) (fun x=>l.length - x) (0) ?_ ?_ ?_);exact (Nat.zero_le _);(simp [Sub,get,zaW]<;>fail);(try simp only [List.cons_append,List.nil_append]);refine pl_ ?_;intro k hk;(try simp only [List.cons_append,List.nil_append]);(try simp only at hk))
  | refine g_ ?_
  | ((with_reducible refine And.intro ?_ ?_);(exact sv))
  | (refine DW.cond (by rfl) ?_ ?_<;>(first | exact i0_ | (refine ic_ ?_;intro hb)))
  | ((with_reducible first | refine zaa ?_ ?_ | refine zai ?_ ?_)<;>(intro hb;rw [hb];revert hb;(first | exact i0_ | (refine i_ ?_;intro hb))))
  | refine r_ ?_
  | refine d_ ?_
  | refine k_ ?_
  | refine vo_ ?_
  | refine o_ ?_
  | refine f_ ?_
  | refine vm_ ?_
  | with_reducible intro b)
 all_goals first
 | ((first | exact fin_ | refine finq_ ?_);done)
 | (refine ⟨k+1,?_,?_,?_,?_⟩;(((try simp only);omega));(((try simp only);omega));(simp [Sub,get]<;>(fail));(try dsimp only);(exact sub_);done)
 | (trace_state;fail)
end
section
attribute [local push_cast 2000] zbw zbl zfa zeK zeJ zeT
theorem zlI (a1 a2:YS) (a3:Int) (a4:Bool) (F:Own):(True)->DC Tryz.prog 246 [.agg [.str a1, .sl (a2.map u8), .int .i64 a3, .bool a4], .agg [.str a1, .sl (a2.map u8), .int .i64 a3, .bool a4]] (([]:Own)++F) fun d G=>d = .bool true/\G=[]++F:=by
 intro hA
 refine DC.bodyS (n_:=31) (show Tryz.prog.funcs[246]? = some Tryz.f246 by kernel_rfl) rfl rfl (by rfl) ?_
 simp only [env0,List.cons_append,List.nil_append]
 have kw:=ksIs [0,1,2,3,4]
 have ow:=zaf []
 repeat' (first
  | refine g_ ?_
  | ((with_reducible refine And.intro ?_ ?_);(exact sv))
  | (refine DW.cond (by rfl) ?_ ?_<;>(first | exact i0_ | (refine ic_ ?_;intro hb)))
  | ((with_reducible refine zaa ?_ ?_)<;>(intro hb;rw [hb];revert hb;(first | exact i0_ | (refine i_ ?_;intro hb))))
  | refine r_ ?_
  | refine k_ ?_
  | (refine q_ (zj4 _ _) ?_)
  | refine o_ ?_
  | refine f_ ?_
  | with_reducible intro b)
 (first | exact fin_ | refine finq_ ?_)
 all_goals rfl
end
section
attribute [local push_cast 2000] List.append_eq List.cons_append List.nil_append zbw zbl zfa zeK zeJ zeT
theorem zlb (p:Pk) (F:Own):(True)->DC Tryz.prog 245 [.agg [.int .i64 p.kind, .bool p.dup, .bool p.retain, .int .i64 p.qos, .int .i64 p.id, .str p.topic, .sl (p.payload.map u8), .int .i64 p.level, .str p.client, .bool p.clean, .int .i64 p.keep, .bool p.hasWill, .str p.wtopic, .sl (p.wpay.map u8), .int .i64 p.wqos, .bool p.wretain, .bool p.hasUser, .bool p.hasPass, .str p.user, .sl (p.pass.map u8), .bool p.present, .int .i64 p.code, .sl (p.subs.map encU), .sl (p.codes.map (V.int .i64))], .agg [.int .i64 p.kind, .bool p.dup, .bool p.retain, .int .i64 p.qos, .int .i64 p.id, .str p.topic, .sl (p.payload.map u8), .int .i64 p.level, .str p.client, .bool p.clean, .int .i64 p.keep, .bool p.hasWill, .str p.wtopic, .sl (p.wpay.map u8), .int .i64 p.wqos, .bool p.wretain, .bool p.hasUser, .bool p.hasPass, .str p.user, .sl (p.pass.map u8), .bool p.present, .int .i64 p.code, .sl (p.subs.map encU), .sl (p.codes.map (V.int .i64))]] (([]:Own)++F) fun d G=>d = .bool true/\G=[]++F:=by
 intro hA
 refine DC.bodyS (n_:=80) (show Tryz.prog.funcs[245]? = some Tryz.f245 by kernel_rfl) rfl rfl (by rfl) ?_
 simp only [env0,List.cons_append,List.nil_append]
 have kw:=ksIs [0,1,2,3,4]
 have ow:=zaf []
 repeat' (first
  | refine g_ ?_
  | ((with_reducible refine And.intro ?_ ?_);(exact sv))
  | (refine DW.cond (by rfl) ?_ ?_<;>(first | exact i0_ | (refine ic_ ?_;intro hb)))
  | ((with_reducible refine zaa ?_ ?_)<;>(intro hb;rw [hb];revert hb;(first | exact i0_ | (refine i_ ?_;intro hb))))
  | refine r_ ?_
  | refine k_ ?_
  | (refine q_ (zj4 _ _) ?_)
  | refine o_ ?_
  | refine f_ ?_
  | with_reducible intro b)
 (first | exact fin_ | refine finq_ ?_)
 all_goals rfl
end
section
attribute [local push_cast 2000] List.append_eq List.cons_append List.nil_append zbw zbl zfa zeK zeJ zeT
theorem zk8 (p:Pk) (F:Own):(PkN p)->DC Tryz.prog 197 [.agg [.int .i64 p.kind, .bool p.dup, .bool p.retain, .int .i64 p.qos, .int .i64 p.id, .str p.topic, .sl (p.payload.map u8), .int .i64 p.level, .str p.client, .bool p.clean, .int .i64 p.keep, .bool p.hasWill, .str p.wtopic, .sl (p.wpay.map u8), .int .i64 p.wqos, .bool p.wretain, .bool p.hasUser, .bool p.hasPass, .str p.user, .sl (p.pass.map u8), .bool p.present, .int .i64 p.code, .sl (p.subs.map encU), .sl (p.codes.map (V.int .i64))], .agg [.int .i64 p.kind, .bool p.dup, .bool p.retain, .int .i64 p.qos, .int .i64 p.id, .str p.topic, .sl (p.payload.map u8), .int .i64 p.level, .str p.client, .bool p.clean, .int .i64 p.keep, .bool p.hasWill, .str p.wtopic, .sl (p.wpay.map u8), .int .i64 p.wqos, .bool p.wretain, .bool p.hasUser, .bool p.hasPass, .str p.user, .sl (p.pass.map u8), .bool p.present, .int .i64 p.code, .sl (p.subs.map encU), .sl (p.codes.map (V.int .i64))]] (([]:Own)++F) fun d G=>d = .bool true/\G=[]++F:=by
 intro hA
 have hp:=hA
 refine DC.bodyS (n_:=78) (show Tryz.prog.funcs[197]? = some Tryz.f197 by kernel_rfl) rfl rfl (by rfl) ?_
 simp only [env0,List.cons_append,List.nil_append]
 have kw:=ksIs [0,1,2,3,4]
 have ow:=zaf []
 have s1:=hp.subs;have s2:=hp.codes
 repeat' (first
  | refine g_ ?_
  | ((with_reducible refine And.intro ?_ ?_);(exact sv))
  | (refine DW.cond (by rfl) ?_ ?_<;>(first | exact i0_ | (refine ic_ ?_;intro hb)))
  | ((with_reducible refine zaa ?_ ?_)<;>(intro hb;rw [hb];revert hb;(first | exact i0_ | (refine i_ ?_;intro hb))))
  | refine r_ ?_
  | refine k_ ?_
  | (refine q_ (zj4 _ _) ?_)
  | (refine q_ (zlb _ _) ?_)
  | (refine q_ (zlI _ _ _ _ _) ?_)
  | (refine q_ (eqsU_dc _ _) ?_)
  | (refine q_ (eqsI_dc _ _) ?_)
  | refine o_ ?_
  | refine f_ ?_
  | with_reducible intro b)
 (first | exact fin_ | refine finq_ ?_)
 all_goals rfl
end
theorem zjk {P Q:Prop} (q:Q) (h:Hid Q->P:=by (intro q;simp (maxSteps:=1000000) (disch:=omega) only [push_cast,↓reduceIte,reduceCtorEq,Nat.reduceAdd,Nat.reduceMul,Nat.reduceLT,Nat.reduceLeDiff,Nat.reduceEqDiff,Nat.reduceSub,Int.reduceToNat,Int.reduceLT,Int.reduceLE,Int.reduceAdd,Int.reduceSub,Int.reduceMul,Int.reduceNeg,Nat.reduceBEq,Int.reduceBEq,Int.reduceBNe,Nat.reduceBNe,Int.reduceEq,hnum];exact q.1)):P:=h ⟨q⟩
theorem zp2 (p:Pk) (F:Own):(True)->DC Tryz.prog 198 [.agg [.int .i64 p.kind, .bool p.dup, .bool p.retain, .int .i64 p.qos, .int .i64 p.id, .str p.topic, .sl (p.payload.map u8), .int .i64 p.level, .str p.client, .bool p.clean, .int .i64 p.keep, .bool p.hasWill, .str p.wtopic, .sl (p.wpay.map u8), .int .i64 p.wqos, .bool p.wretain, .bool p.hasUser, .bool p.hasPass, .str p.user, .sl (p.pass.map u8), .bool p.present, .int .i64 p.code, .sl (p.subs.map encU), .sl (p.codes.map (V.int .i64))]] (([]:Own)++F) fun d G=>d = .agg [.int .i64 (onlyM p).kind, .bool (onlyM p).dup, .bool (onlyM p).retain, .int .i64 (onlyM p).qos, .int .i64 (onlyM p).id, .str (onlyM p).topic, .sl ((onlyM p).payload.map u8), .int .i64 (onlyM p).level, .str (onlyM p).client, .bool (onlyM p).clean, .int .i64 (onlyM p).keep, .bool (onlyM p).hasWill, .str (onlyM p).wtopic, .sl ((onlyM p).wpay.map u8), .int .i64 (onlyM p).wqos, .bool (onlyM p).wretain, .bool (onlyM p).hasUser, .bool (onlyM p).hasPass, .str (onlyM p).user, .sl ((onlyM p).pass.map u8), .bool (onlyM p).present, .int .i64 (onlyM p).code, .sl ((onlyM p).subs.map encU), .sl ((onlyM p).codes.map (V.int .i64))]/\G=[]++F:=by
 intro hA
 refine DC.bodyS (n_:=94) (show Tryz.prog.funcs[198]? = some Tryz.f198 by kernel_rfl) rfl rfl (by rfl) ?_
 simp only [env0,List.cons_append,List.nil_append]
 have kw:=ksIs [0,1,2,3,8,13,14,38,43,48,52,60,82,88]
 have ow:=zaf []
 have dw6:=drIs 6 [15,17,19,21,23,25,27] [1]
 have dw14:=drIs 14 [5,7] [1]
 have dw16:=drIs 16 [16,18,20,22,24] [1,4]
 have rw_:=rsIs [.cell 2 29]
 have hnum:True:=trivial
 clear hnum
 rcases hnum:numM p with _ | _
 have hnm:=zqm hnum
 rotate_left
 have hnm:=zpU hnum
 all_goals skip
 repeat' (first
  | refine g_ ?_
  | ((with_reducible refine And.intro ?_ ?_);(exact sv))
  | (refine DW.cond (by rfl) ?_ ?_<;>(first | exact i0_ | (intro hb;(try simp only [↓reduceCtorEq,not_true_eq_false,not_false_eq_true,hbs,Int.reduceBEq,Int.reduceBNe,Int.reduceEq] at hb);(try refine zjk ?_))))
  | ((with_reducible first | refine zaa ?_ ?_ | refine zai ?_ ?_)<;>(intro hb;rw [hb];revert hb;(first | exact i0_ | (intro hb;(try simp only [↓reduceCtorEq,not_true_eq_false,not_false_eq_true,hbs,Int.reduceBEq,Int.reduceBNe,Int.reduceEq] at hb);(try refine zjk ?_)))))
  | ((first | refine rn_ ?_ | refine dn_ ?_ | refine kn_ ?_)<;>(refine zjk ?_))
  | ((refine dm_ ?_);(first | (refine v_ (zed _ _) ?_ (hk:=fun q=>q.1);refine zjk ?_)))
  | ((refine von_ ?_);refine zjk ?_)
  | (refine q_ (zed _ _) ?_ (hk:=fun q=>q.1);refine zjk ?_)
  | ((refine on_ ?_);refine zjk ?_)
  | refine f_ ?_
  | refine vm_ ?_
  | with_reducible intro b)
 all_goals first
 | ((have hq0:¬ (0<p.qos):=by omega);(refine ⟨_,_,?_,⟨rfl,rfl⟩,?_⟩);rotate_left;(exact sub_);(clear hnm hnum);(unfold onlyM);(simp only [*,↓reduceIte,Bool.false_eq_true,reduceCtorEq,or_true,true_or,or_self,Int.reduceEq,if_true,if_false,Bool.and_true,Bool.and_false,decide_true,decide_false]);(refine le.agg ?_);(repeat (first | exact Les.nil | refine Les.cons le.rfl_ ?_ | refine Les.cons (le.gs rfl) ?_));done)
 | ((have hq0:0<p.qos:=by omega);(refine ⟨_,_,?_,⟨rfl,rfl⟩,?_⟩);rotate_left;(exact sub_);(clear hnm hnum);(unfold onlyM);(simp only [*,↓reduceIte,Bool.false_eq_true,reduceCtorEq,or_true,true_or,or_self,Int.reduceEq,if_true,if_false,Bool.and_true,Bool.and_false,decide_true,decide_false]);(refine le.agg ?_);(repeat (first | exact Les.nil | refine Les.cons le.rfl_ ?_ | refine Les.cons (le.gs rfl) ?_));done)
 | ((have hk5:p.kind=4\/p.kind=5\/p.kind=6\/p.kind=7\/p.kind=11:=by omega);(refine ⟨_,_,?_,⟨rfl,rfl⟩,?_⟩);rotate_left;(exact sub_);(clear hnm hnum);(unfold onlyM);(simp only [*,↓reduceIte,Bool.false_eq_true,reduceCtorEq,or_true,true_or,or_self,Int.reduceEq,if_true,if_false,Bool.and_true,Bool.and_false,decide_true,decide_false]);(refine le.agg ?_);(repeat (first | exact Les.nil | refine Les.cons le.rfl_ ?_ | refine Les.cons (le.gs rfl) ?_));done)
 | ((have hk5:¬ (p.kind=4\/p.kind=5\/p.kind=6\/p.kind=7\/p.kind=11):=by omega);(refine ⟨_,_,?_,⟨rfl,rfl⟩,?_⟩);rotate_left;(exact sub_);(clear hnm hnum);(unfold onlyM);(simp only [*,↓reduceIte,Bool.false_eq_true,reduceCtorEq,or_true,true_or,or_self,Int.reduceEq,if_true,if_false,Bool.and_true,Bool.and_false,decide_true,decide_false]);(refine le.agg ?_);(repeat (first | exact Les.nil | refine Les.cons le.rfl_ ?_ | refine Les.cons (le.gs rfl) ?_));done)
 | ((refine ⟨_,_,?_,⟨rfl,rfl⟩,?_⟩);rotate_left;(exact sub_);(clear hnm hnum);(unfold onlyM);(simp only [*,↓reduceIte,Bool.false_eq_true,reduceCtorEq,or_true,true_or,or_self,Int.reduceEq,if_true,if_false,Bool.and_true,Bool.and_false,decide_true,decide_false]);(refine le.agg ?_);(repeat (first | exact Les.nil | refine Les.cons le.rfl_ ?_ | refine Les.cons (le.gs rfl) ?_));done)
 | (trace_state;fail)
end
end Go.Proofs.YtgekknefphagbaaGreatDoor
