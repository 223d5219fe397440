/- A packet with the fields of its kind. -/
import Derived.Test.YtgekknefphagbaaGreatDoorFxx
import Derived.KernelRfl
import Derived.Test.YtgekknefphagbaaGreatDoorTex
import Derived.Test.YtgekknefphagbaaGreatDoorWex
namespace Go.Proofs.YtgekknefphagbaaGreatDoor
open Go.RowKit
set_option linter.unusedSimpArgs false
set_option linter.unusedVariables false
set_option linter.unusedSectionVars false
set_option maxHeartbeats 4000000
set_option maxRecDepth 100000
section
def onlyM (p:Pk):Pk :=
 if p.kind=1 then { (default:Pk) with kind:=p.kind,level:=p.level,client:=p.client,clean:=p.clean,keep:=p.keep,hasWill:=p.hasWill,hasUser:=p.hasUser,hasPass:=p.hasPass,wtopic:=if p.hasWill=true then p.wtopic else [],wpay:=if p.hasWill=true then p.wpay else [],wqos:=if p.hasWill=true then p.wqos else 0,wretain:=if p.hasWill=true then p.wretain else false,user:=if p.hasUser=true then p.user else [],pass:=if p.hasPass=true then p.pass else [] }
 else if p.kind=2 then { (default:Pk) with kind:=p.kind,present:=p.present,code:=p.code }
 else if p.kind=3 then { (default:Pk) with kind:=p.kind,retain:=p.retain,qos:=p.qos,topic:=p.topic,payload:=p.payload,dup:=if 0<p.qos then p.dup else false,id:=if 0<p.qos then p.id else 0 }
 else if p.kind=8\/p.kind=10 then { (default:Pk) with kind:=p.kind,id:=p.id,subs:=p.subs }
 else if p.kind=9 then { (default:Pk) with kind:=p.kind,id:=p.id,codes:=p.codes }
 else if p.kind=4\/p.kind=5\/p.kind=6\/p.kind=7\/p.kind=11 then { (default:Pk) with kind:=p.kind,id:=p.id }
 else { (default:Pk) with kind:=p.kind }
theorem zia {c:Prop} [Decidable c] {l:YS} {n:Nat} (h:l.length<=n):(if c then l else []).length<=n:=by
 split
 · exact h
 · exact Nat.zero_le _
attribute [local irreducible] DW SeqD DV DOp DC DVX
theorem zfL (p:Pk) (F:Own):(True)->DC Tryz.prog 183 [.agg [.int .i64 p.kind, .bool p.dup, .bool p.retain, .int .i64 p.qos, .int .i64 p.id, .str p.topic, .sl (p.payload.map u8), .int .i64 p.level, .str p.client, .bool p.clean, .int .i64 p.keep, .bool p.hasWill, .str p.wtopic, .sl (p.wpay.map u8), .int .i64 p.wqos, .bool p.wretain, .bool p.hasUser, .bool p.hasPass, .str p.user, .sl (p.pass.map u8), .bool p.present, .int .i64 p.code, .sl (p.subs.map encU), .sl (p.codes.map (V.int .i64))]] (([]:Own)++F) fun d G=>d = .agg [.int .i64 (onlyM p).kind, .bool (onlyM p).dup, .bool (onlyM p).retain, .int .i64 (onlyM p).qos, .int .i64 (onlyM p).id, .str (onlyM p).topic, .sl ((onlyM p).payload.map u8), .int .i64 (onlyM p).level, .str (onlyM p).client, .bool (onlyM p).clean, .int .i64 (onlyM p).keep, .bool (onlyM p).hasWill, .str (onlyM p).wtopic, .sl ((onlyM p).wpay.map u8), .int .i64 (onlyM p).wqos, .bool (onlyM p).wretain, .bool (onlyM p).hasUser, .bool (onlyM p).hasPass, .str (onlyM p).user, .sl ((onlyM p).pass.map u8), .bool (onlyM p).present, .int .i64 (onlyM p).code, .sl ((onlyM p).subs.map encU), .sl ((onlyM p).codes.map (V.int .i64))]/\G=[]++F:=by
 intro hA
 refine DC.bodyS (n_:=105) (show Tryz.prog.funcs[183]? = some Tryz.f183 by kernel_rfl) rfl rfl (by rfl) ?_
 simp only [env0,List.cons_append,List.nil_append]
 have kw:=ksIs [0,1,2,3,8,9,33,38,43,47,55,71,78,87,95]
 have ow:=zaf []
 have dw4:=drIs 4 [15,17,19,21,23,25,27] [1]
 have dw12:=drIs 12 [5,7] [1]
 have dw14:=drIs 14 [9,11,13,15] [1]
 have dw16:=drIs 16 [5,7] [1]
 have dw19:=drIs 19 [5,7] [1]
 have dw21:=drIs 21 [5,7] [1]
 have rw_:=rsIs [.cell 2 29]
 repeat' (first
  | refine g_ ?_
  | ((with_reducible refine And.intro ?_ ?_);(exact sv))
  | (refine DW.cond (by rfl) ?_ ?_<;>(first | exact i0_ | (refine ic_ ?_;intro hb)))
  | ((with_reducible first | refine zaa ?_ ?_ | refine zak ?_ ?_)<;>(intro hb;rw [hb];revert hb;(first | exact i0_ | (refine i_ ?_;intro hb))))
  | refine r_ ?_
  | refine d_ ?_
  | refine k_ ?_
  | refine vo_ ?_
  | refine o_ ?_
  | refine f_ ?_
  | refine vm_ ?_
  | with_reducible intro b)
 all_goals first
 | ((refine ⟨_,_,?_,⟨rfl,rfl⟩,?_⟩);rotate_left;(exact sub_);(unfold onlyM);(simp only [*,↓reduceIte,Bool.false_eq_true,reduceCtorEq,or_true,true_or,or_self,Int.reduceEq,if_true,if_false]);(refine le.agg ?_);(repeat (first | exact Les.nil | refine Les.cons le.rfl_ ?_ | refine Les.cons (le.gs rfl) ?_));done)
 | ((have hq0:¬ (0<p.qos):=by omega);(refine ⟨_,_,?_,⟨rfl,rfl⟩,?_⟩);rotate_left;(exact sub_);(unfold onlyM);(simp only [*,↓reduceIte,Bool.false_eq_true,reduceCtorEq,or_true,true_or,or_self,Int.reduceEq,if_true,if_false]);(refine le.agg ?_);(repeat (first | exact Les.nil | refine Les.cons le.rfl_ ?_ | refine Les.cons (le.gs rfl) ?_));done)
 | (trace_state;fail)
end
section
theorem DC.frz1 {P:Program} {f:FuncId} {args:List V} {H F:Own} {Q:YS->Prop}
  (h:DC P f args H fun d G=>∃ (v:Value) (x:YS),Q x/\d = .ar v x.length/\G = .arr 1 v (x.map u8)::F):DC P f args H fun d G=>∃ x:YS,Q x/\d = .sl (x.map u8)/\G=F :=
 (DC.frzX (F:=F) (X:=YS) (Q:=Q) (sz:=1) (l:=fun x=>x.map u8) (by decide) (fun x y hy=>by obtain ⟨z,_,rfl⟩:=List.mem_map.1 hy;rfl) (h.mono fun d G ⟨v,x,hq,hd,hG⟩=>⟨v,x,by rw [List.length_map];exact hd,hq,by rw [zaU];exact hG⟩)).mono fun d G ⟨x,hq,hd,hG⟩=>⟨x,hq,hd,hG⟩
theorem zej (p:Pk) (F:Own):PkN p->DC Tryz.prog 139 [.agg [.int .i64 p.kind, .bool p.dup, .bool p.retain, .int .i64 p.qos, .int .i64 p.id, .str p.topic, .sl (p.payload.map u8), .int .i64 p.level, .str p.client, .bool p.clean, .int .i64 p.keep, .bool p.hasWill, .str p.wtopic, .sl (p.wpay.map u8), .int .i64 p.wqos, .bool p.wretain, .bool p.hasUser, .bool p.hasPass, .str p.user, .sl (p.pass.map u8), .bool p.present, .int .i64 p.code, .sl (p.subs.map encU), .sl (p.codes.map (V.int .i64))]] (([]:Own)++F) fun d G=>d = .sl ((zbl p).map u8)/\G=[]++F:=fun hp =>
 (DC.frz1 (Q:=fun x=>x=zbl p) ((zoL p F hp).mono fun d G ⟨v,hd,hG⟩=>⟨v,zbl p,rfl,hd,hG⟩)).mono fun d G ⟨x,hx,hd,hG⟩=>by subst hx;exact ⟨hd,hG⟩
def numM (p:Pk):Bool:=if p.kind=3 then decide (0<p.qos) else decide (4<=p.kind/\p.kind<=11)
theorem only_N {p:Pk} (h:PkN p):PkN (onlyM p):=by
 have z:∀ n,([]:YS).length<=n:=fun n=>Nat.zero_le _
 have d0:∀ k:Nat,((([]:List (YS×Int)).getD k default)).1.length<=100000:=fun k=>by simp [List.getD_eq_getElem?_getD];decide
 unfold onlyM
 split
 · exact ⟨z _,z _,h.client,zia h.wtopic,zia h.wpay,zia h.user,zia h.pass,Nat.zero_le _,d0,Nat.zero_le _⟩
 · split
   · exact ⟨z _,z _,z _,z _,z _,z _,z _,Nat.zero_le _,d0,Nat.zero_le _⟩
   · split
     · exact ⟨h.topic,h.payload,z _,z _,z _,z _,z _,Nat.zero_le _,d0,Nat.zero_le _⟩
     · split
       · exact ⟨z _,z _,z _,z _,z _,z _,z _,h.subs,h.flt,Nat.zero_le _⟩
       · split
         · exact ⟨z _,z _,z _,z _,z _,z _,z _,Nat.zero_le _,d0,h.codes⟩
         · split
           · exact ⟨z _,z _,z _,z _,z _,z _,z _,Nat.zero_le _,d0,Nat.zero_le _⟩
           · exact ⟨z _,z _,z _,z _,z _,z _,z _,Nat.zero_le _,d0,Nat.zero_le _⟩
noncomputable def preM (p:Pk):Bool:=inM p.kind 1 14&&zeT p (onlyM p)&&(!numM p||inM p.id 1 65535)&&inM p.qos 0 2&&zen p.topic&&zen p.client&&zen p.user&&zen p.wtopic&&inM p.wqos 0 2&&decide ((p.wpay.length:Int)<=65535)&&decide ((p.pass.length:Int)<=65535)&&inM p.level 0 255&&inM p.keep 0 65535&&(!p.hasPass||p.hasUser)&&inM p.code 0 5&&(!p.present||decide (p.code=0))
def zlM (p:Pk) (x:YS×Int):Bool:=zen x.1&&inM x.2 0 2 && !(decide (p.kind=10)&&decide (x.2≠0))
def zcr (c:Int):Bool:=inM c 0 2||decide (c=128)
noncomputable def zaj (p:Pk):Bool:=preM p&&p.subs.all (zlM p)&&p.codes.all zcr && !((decide (p.kind=8)||decide (p.kind=10))&&decide (p.subs.length=0)) && !(decide (p.kind=9)&&decide (p.codes.length=0))&&decide ((zbl p).length<=8192)
theorem zlk {p:Pk} (h:preM p=false):zaj p=false:=by unfold zaj;rw [h];rfl
theorem zpG {α:Type} [Inhabited α] {l:List α} {k:Nat} (h:k<l.length):l.getD k default∈l:=by
 rw [List.getD_eq_getElem?_getD,List.getElem?_eq_getElem h];exact List.getElem_mem h
theorem zfa {α:Type} [Inhabited α] {f:α->Bool} {l:List α} {k:Nat} (h:(l.take k).all f=true) (hk:k<l.length) (e:f (l.getD k default)=true):(l.take (k+1)).all f=true:=by
 rw [zex hk,List.all_append,h,List.all_cons,e];rfl
theorem zfb {α:Type} [Inhabited α] {f:α->Bool} {l:List α} {k:Nat} (hk:k<l.length) (e:f (l.getD k default)=false):l.all f=false:=by
 rw [List.all_eq_false]
 exact ⟨_,zpG hk,by rw [e];decide⟩
inductive Bx (T:Prop):Prop where
 | mk:T->Bx T
theorem Bx.out {T:Prop} (h:Bx T):T:=by cases h;assumption
theorem cut2_ {A T G:Prop} (h:Bx (A->T)->G) (t:A->T):G:=h ⟨t⟩
theorem DW.cutB {P:Program} {n:Nat} {Q:Exit->Env->Own->Prop} {e:Env} {H:Own} (id:Nat) (e':Env) {c:Code} (he:Sub e' e) (h:DW P n (.block id (.loop c)) Q e' H):DW P n (.block id (.loop c)) Q e H:=DW.sub e' he h
attribute [local irreducible] DW SeqD DV DOp DC DVX onlyM preM zaj
theorem zh8 (p:Pk) (F:Own):(True)->DC Tryz.prog 184 [.agg [.int .i64 p.kind, .bool p.dup, .bool p.retain, .int .i64 p.qos, .int .i64 p.id, .str p.topic, .sl (p.payload.map u8), .int .i64 p.level, .str p.client, .bool p.clean, .int .i64 p.keep, .bool p.hasWill, .str p.wtopic, .sl (p.wpay.map u8), .int .i64 p.wqos, .bool p.wretain, .bool p.hasUser, .bool p.hasPass, .str p.user, .sl (p.pass.map u8), .bool p.present, .int .i64 p.code, .sl (p.subs.map encU), .sl (p.codes.map (V.int .i64))]] (([]:Own)++F) fun d G=>d = .bool (numM p)/\G=[]++F:=by
 intro hA
 refine DC.bodyS (n_:=19) (show Tryz.prog.funcs[184]? = some Tryz.f184 by kernel_rfl) rfl rfl (by rfl) ?_
 simp only [env0,List.cons_append,List.nil_append]
 have kw:=ksIs [0,1,2,4,5,10]
 have ow:=zaf []
 repeat' (first
  | refine g_ ?_
  | ((with_reducible refine And.intro ?_ ?_);(exact sv))
  | (refine DW.cond (by rfl) ?_ ?_<;>(first | exact i0_ | (refine ic_ ?_;intro hb)))
  | ((with_reducible refine zaa ?_ ?_)<;>(intro hb;rw [hb];revert hb;(first | exact i0_ | (refine i_ ?_;intro hb))))
  | refine r_ ?_
  | refine k_ ?_
  | refine o_ ?_
  | refine f_ ?_
  | with_reducible intro b)
 all_goals first
 | ((refine ⟨_,_,le.of_eq ?_,⟨rfl,rfl⟩,?_⟩);rotate_left;(exact sub_);congr 1;unfold numM;(simp_all<;>omega);done)
 | ((refine ⟨_,_,le.of_eq ?_,⟨rfl,rfl⟩,?_⟩);rotate_left;(exact sub_);congr 1;unfold numM;rw [Bool.eq_iff_iff];(simp_all<;>omega);done)
 | (trace_state;fail)
theorem zag {p:Prop} (h:p:=by first | exact sv | exact ⟨hp,only_N hp⟩ | exact hp | (have h1:=hp.topic;omega) | (have h1:=hp.client;omega) | (have h1:=hp.user;omega) | (have h1:=hp.wtopic;omega) | (have h1:=hp.flt k;omega) | fail):p:=h
section
attribute [local push_cast 2000] List.append_eq List.cons_append List.nil_append encU
theorem zka (zb6:∀ (p q:Pk) (F:Own),(PkN p/\PkN q)->DC Tryz.prog 182 [.agg [.int .i64 p.kind, .bool p.dup, .bool p.retain, .int .i64 p.qos, .int .i64 p.id, .str p.topic, .sl (p.payload.map u8), .int .i64 p.level, .str p.client, .bool p.clean, .int .i64 p.keep, .bool p.hasWill, .str p.wtopic, .sl (p.wpay.map u8), .int .i64 p.wqos, .bool p.wretain, .bool p.hasUser, .bool p.hasPass, .str p.user, .sl (p.pass.map u8), .bool p.present, .int .i64 p.code, .sl (p.subs.map encU), .sl (p.codes.map (V.int .i64))], .agg [.int .i64 q.kind, .bool q.dup, .bool q.retain, .int .i64 q.qos, .int .i64 q.id, .str q.topic, .sl (q.payload.map u8), .int .i64 q.level, .str q.client, .bool q.clean, .int .i64 q.keep, .bool q.hasWill, .str q.wtopic, .sl (q.wpay.map u8), .int .i64 q.wqos, .bool q.wretain, .bool q.hasUser, .bool q.hasPass, .str q.user, .sl (q.pass.map u8), .bool q.present, .int .i64 q.code, .sl (q.subs.map encU), .sl (q.codes.map (V.int .i64))]] (([]:Own)++F) fun d G=>d = .bool (zeT p q)/\G=[]++F) (p:Pk) (F:Own):(PkN p)->DC Tryz.prog 137 [.agg [.int .i64 p.kind, .bool p.dup, .bool p.retain, .int .i64 p.qos, .int .i64 p.id, .str p.topic, .sl (p.payload.map u8), .int .i64 p.level, .str p.client, .bool p.clean, .int .i64 p.keep, .bool p.hasWill, .str p.wtopic, .sl (p.wpay.map u8), .int .i64 p.wqos, .bool p.wretain, .bool p.hasUser, .bool p.hasPass, .str p.user, .sl (p.pass.map u8), .bool p.present, .int .i64 p.code, .sl (p.subs.map encU), .sl (p.codes.map (V.int .i64))]] (([]:Own)++F) fun d G=>d = .bool (zaj p)/\G=[]++F:=by
 intro hA
 have hp:=hA
 refine DC.bodyS (n_:=201) (show Tryz.prog.funcs[137]? = some Tryz.f137 by kernel_rfl) rfl rfl (by rfl) ?_
 simp only [env0,List.cons_append,List.nil_append]
 have kw:=ksIs [0,1,2,3,4,76,110,115,149,154,171,196]
 have ow:=zaf []
 have dw1:=drIs 1 [] [1,2,5,6,7,8,12,13,16,17,23,24,29,30,35,36,41,42,48,49,55,56,62,68]
 have s1:=hp.subs;have s2:=hp.codes
 refine cut2_ (A:=preM p=true) (T:=?T) ?m ?t
 case m =>
  intro tail
  repeat' (first
   | ((with_reducible refine DW.cutB 0 [(1, .sp [.int .i64 p.kind, .bool p.dup, .bool p.retain, .int .i64 p.qos, .int .i64 p.id, .str p.topic, .sl (p.payload.map u8), .int .i64 p.level, .str p.client, .bool p.clean, .int .i64 p.keep, .bool p.hasWill, .str p.wtopic, .sl (p.wpay.map u8), .int .i64 p.wqos, .bool p.wretain, .bool p.hasUser, .bool p.hasPass, .str p.user, .sl (p.pass.map u8), .bool p.present, .int .i64 p.code, .sl (p.subs.map encU), .sl (p.codes.map (V.int .i64))]),(3, .int .i64 0)] ?_ ?_);(simp [Sub,get,zaP, *]<;>fail);exact tail.out (by clear tail zb6;unfold preM;(simp_all<;>(intros;omega))))
   | refine g_ ?_
   | ((with_reducible refine And.intro ?_ ?_);(exact zag))
   | (refine DW.cond (by rfl) ?_ ?_<;>(first | exact i0_ | (refine ic_ ?_;intro hb)))
   | ((with_reducible first | refine zaa ?_ ?_ | refine zak ?_ ?_)<;>(intro hb;rw [hb];revert hb;(first | exact i0_ | (refine i_ ?_;intro hb))))
   | refine r_ ?_
   | refine d_ ?_
   | refine k_ ?_
   | ((refine dm_ ?_);(first | ((first | refine v_ (zh1 _ _ _ _) ?_ (ha:=by exact zag) | refine v_ (zeM _ _) ?_ (ha:=by exact zag) | refine v_ (zfL _ _) ?_ (ha:=by exact zag) | refine v_ (zb6 _ _ _) ?_ (ha:=by exact zag))) | (refine v_ (zh8 _ _) ?_ (ha:=by exact zag)) | (refine v_ (zej _ _) ?_ (ha:=by exact zag))))
   | refine vo_ ?_
   | ((first | refine q_ (zh1 _ _ _ _) ?_ (ha:=by exact zag) | refine q_ (zeM _ _) ?_ (ha:=by exact zag) | refine q_ (zfL _ _) ?_ (ha:=by exact zag) | refine q_ (zb6 _ _ _) ?_ (ha:=by exact zag)))
   | (refine q_ (zh8 _ _) ?_ (ha:=by exact zag))
   | (refine q_ (zej _ _) ?_ (ha:=by exact zag))
   | refine o_ ?_
   | refine f_ ?_
   | refine vm_ ?_
   | with_reducible intro b)
  all_goals first
  | ((refine ⟨_,_,le.of_eq ?_,⟨rfl,rfl⟩,?_⟩);rotate_left;(exact sub_);(rw [zlk (by clear tail zb6;unfold preM;(simp_all<;>(intros;omega)))]);done)
  | (trace_state;fail)
 case t =>
  intro hpre
  repeat' (first
   | ((with_reducible refine DW.loopB 0 (X:=Nat) (fun x=>x<=p.subs.length/\(p.subs.take x).all (zlM p)=true) (fun x=>[(1, .sp [.int .i64 p.kind, .bool p.dup, .bool p.retain, .int .i64 p.qos, .int .i64 p.id, .str p.topic, .sl (p.payload.map u8), .int .i64 p.level, .str p.client, .bool p.clean, .int .i64 p.keep, .bool p.hasWill, .str p.wtopic, .sl (p.wpay.map u8), .int .i64 p.wqos, .bool p.wretain, .bool p.hasUser, .bool p.hasPass, .str p.user, .sl (p.pass.map u8), .bool p.present, .int .i64 p.code, .sl (p.subs.map encU), .sl (p.codes.map (V.int .i64))]),(3, .int .i64 x)]) (fun x=>([]:Own)) (fun x=>p.subs.length - x) (0) ?_ ?_ ?_);exact (⟨Nat.zero_le _,rfl⟩);(simp [Sub,get,zaP, *]<;>fail);(try simp only [List.cons_append,List.nil_append]);refine pl_ ?_;intro k ⟨hk,hks⟩;(try simp only [List.cons_append,List.nil_append]);(try simp only at hk hks))
   | ((with_reducible refine DW.loopB 2 (X:=Nat) (fun x=>x<=p.codes.length/\(p.codes.take x).all zcr=true) (fun x=>[(1, .sp [.int .i64 p.kind, .bool p.dup, .bool p.retain, .int .i64 p.qos, .int .i64 p.id, .str p.topic, .sl (p.payload.map u8), .int .i64 p.level, .str p.client, .bool p.clean, .int .i64 p.keep, .bool p.hasWill, .str p.wtopic, .sl (p.wpay.map u8), .int .i64 p.wqos, .bool p.wretain, .bool p.hasUser, .bool p.hasPass, .str p.user, .sl (p.pass.map u8), .bool p.present, .int .i64 p.code, .sl (p.subs.map encU), .sl (p.codes.map (V.int .i64))]),(4, .int .i64 x)]) (fun x=>([]:Own)) (fun x=>p.codes.length - x) (0) ?_ ?_ ?_);exact (⟨Nat.zero_le _,rfl⟩);(simp [Sub,get,zaP, *]<;>fail);(try simp only [List.cons_append,List.nil_append]);refine pl_ ?_;intro i ⟨hi,his⟩;(try simp only [List.cons_append,List.nil_append]);(try simp only at hi his))
   | refine g_ ?_
   | ((with_reducible refine And.intro ?_ ?_);(exact zag))
   | (refine DW.cond (by rfl) ?_ ?_<;>(first | exact i0_ | (refine ic_ ?_;intro hb)))
   | ((with_reducible first | refine zaa ?_ ?_ | refine zak ?_ ?_)<;>(intro hb;rw [hb];revert hb;(first | exact i0_ | (refine i_ ?_;intro hb))))
   | refine r_ ?_
   | refine d_ ?_
   | refine k_ ?_
   | ((refine dm_ ?_);(first | ((first | refine v_ (zh1 _ _ _ _) ?_ (ha:=by exact zag) | refine v_ (zeM _ _) ?_ (ha:=by exact zag) | refine v_ (zfL _ _) ?_ (ha:=by exact zag) | refine v_ (zb6 _ _ _) ?_ (ha:=by exact zag))) | (refine v_ (zh8 _ _) ?_ (ha:=by exact zag)) | (refine v_ (zej _ _) ?_ (ha:=by exact zag))))
   | refine vo_ ?_
   | ((first | refine q_ (zh1 _ _ _ _) ?_ (ha:=by exact zag) | refine q_ (zeM _ _) ?_ (ha:=by exact zag) | refine q_ (zfL _ _) ?_ (ha:=by exact zag) | refine q_ (zb6 _ _ _) ?_ (ha:=by exact zag)))
   | (refine q_ (zh8 _ _) ?_ (ha:=by exact zag))
   | (refine q_ (zej _ _) ?_ (ha:=by exact zag))
   | refine o_ ?_
   | refine f_ ?_
   | refine vm_ ?_
   | with_reducible intro b)
  all_goals first
  | ((refine ⟨_,_,le.of_eq ?_,⟨rfl,rfl⟩,?_⟩);rotate_left;(exact sub_);(rw [show zaj p=false from by unfold zaj;rw [zfb (f:=zlM p) (k:=k) (by omega) (by clear zb6;unfold zlM;simp_all)];simp]);done)
  | ((refine ⟨_,_,le.of_eq ?_,⟨rfl,rfl⟩,?_⟩);rotate_left;(exact sub_);(rw [show zaj p=false from by unfold zaj;rw [zfb (f:=zcr) (k:=i) (by omega) (by clear zb6;unfold zcr;simp_all)];simp]);done)
  | ((refine ⟨_,_,le.of_eq ?_,⟨rfl,rfl⟩,?_⟩);rotate_left;(exact sub_);(have es:p.subs.all (zlM p)=true:=by rwa [List.take_of_length_le (by omega)] at hks);(have ec:p.codes.all zcr=true:=by rwa [List.take_of_length_le (by omega)] at his);(congr 1);(unfold zaj);(rw [hpre,es,ec]);(rw [Bool.eq_iff_iff]);(clear zb6);(simp_all<;>omega);done)
  | (refine ⟨k+1,⟨by (try simp only);omega,zfa hks (by omega) (by clear zb6;unfold zlM;simp_all)⟩,by (try simp only);omega,by simp [Sub,get],?_⟩;(exact kxce);done)
  | (refine ⟨i+1,⟨by (try simp only);omega,zfa his (by omega) (by clear zb6;unfold zcr;simp_all)⟩,by (try simp only);omega,by simp [Sub,get],?_⟩;(exact kxce);done)
  | (trace_state;fail)
end
end
section
def zkh (p:Pk):Int:=if p.kind=6\/p.kind=8\/p.kind=10 then 2 else if p.kind=3 then (if p.dup=true then 8 else 0)+2 * p.qos+(if p.retain=true then 1 else 0) else 0
def zeD (p:Pk):UInt8:=zbr (16 * p.kind+zkh p)
noncomputable def putM (p:Pk):YS:=if zaj p=true then zeD p::(varM (zbl p).length++zbl p) else []
theorem zjc {p:Pk} (h:zaj p=true):(zbl p).length<=8192:=by
 unfold zaj at h
 simp only [Bool.and_eq_true,decide_eq_true_eq] at h
 exact h.2
theorem DC.frzQ {P:Program} {f:FuncId} {args:List V} {H F:Own} {Q:YS->Int->Prop}
  (h:DC P f args H fun d G=>(∃ e:Int,Q [] e/\d = .tup [.gs (.slice none 0 0) [], .int .i64 e]/\G=F)\/∃ (v:Value) (x:YS) (e:Int),Q x e/\d = .tup [.ar v x.length, .int .i64 e]/\G = .arr 1 v (x.map u8)::F):DC P f args H fun d G=>∃ (x:YS) (e:Int),Q x e/\d = .tup [.sl (x.map u8), .int .i64 e]/\G=F :=
 ⟨h.1,fun xs w hs hn hr=>(h.2 xs w hs hn hr).mono fun e0 w' ⟨u,d,H',he,s,ex,r,hd⟩=>by
   rcases hd with ⟨e,hq,hd,hG⟩ | ⟨v,x,e,hq,hd,hG⟩
   · subst hd hG
     exact ⟨u, .tup [.sl (([]:YS).map u8), .int .i64 e],_,he,s,ex,le.tup (Les.cons (le.gs rfl) (Les.cons le.rfl_ Les.nil)) _ _ _ r,[],e,hq,rfl,rfl⟩
   · subst hd hG
     obtain ⟨⟨g1,g2⟩,g3⟩:=Sim.frz (L1:=[]) (l:=x.map u8) (by rw [zaU];exact s) (by decide) (fun y hy=>by obtain ⟨z,_,rfl⟩:=List.mem_map.1 hy;rfl)
     rw [zaU] at g2
     have k1:Ext w' (.tail 1 v::F) w' F:=Ext.drop fun x hx=>List.mem_cons_of_mem _ hx
     have r1:R (stable w' F) w' u (.tup [.gs v (x.map u8), .int .i64 e]):=(R.cv g3 (Cv.tupL (CvL.cons (Cv.hit _) (CvL.cons (Cv.rfl _) CvL.nil))) (g2.rel r)).mono k1.cells
     exact ⟨u, .tup [.sl (x.map u8), .int .i64 e],F,he,g1.drop (List.sublist_cons_self _ _),(ex.trans g2).trans k1,le.tup (Les.cons (le.gs rfl) (Les.cons le.rfl_ Les.nil)) _ _ _ r1,x,e,hq,rfl,rfl⟩⟩
theorem zk2 {b:Value} {v:V} {p:Pk} {F:Own} (hr:zaj p=true) (hv:v=u8 (zeD p)):∃ d' G,le (V.tup [.ar b (1+(varM (zbl p).length).length+(zbl p).length), .int .i64 0]) d'/\((∃ e:Int,(putM p=[]/\e=if zaj p=true then 0 else 26)/\d'=V.tup [.gs (.slice none 0 0) [], .int .i64 e]/\G=F)\/∃ (v:Value) (x:YS) (e:Int),(putM p=x/\e=if zaj p=true then 0 else 26)/\d'=V.tup [.ar v x.length, .int .i64 e]/\G = .arr 1 v (x.map u8)::F)/\SubP G (.arr 1 b (v::((varM (zbl p).length).map u8++(zbl p).map u8))::F):=by
 subst hv
 have e0:putM p=zeD p::(varM (zbl p).length++zbl p):=by unfold putM;rw [if_pos hr]
 have e1:1+(varM (zbl p).length).length+(zbl p).length=(zeD p::(varM (zbl p).length++zbl p)).length:=by simp;omega
 have e2:u8 (zeD p)::((varM (zbl p).length).map u8++(zbl p).map u8)=(zeD p::(varM (zbl p).length++zbl p)).map u8:=by simp
 rw [e1,e2]
 exact ⟨_,_,le.rfl_, .inr ⟨b,_,0,⟨e0,by rw [if_pos hr]⟩,rfl,rfl⟩,SubP.refl⟩
attribute [local irreducible] DW SeqD DV DOp DC DVX varM zaj zbl
theorem zb8 {p:Prop} (h:p:=by first | exact sv | exact hp | (have hl8:=zjc (p:=p) (by assumption);have hv4:=zei (zbl p).length;have hz4:=zfR (zbl p).length;first | omega | (exact kxcn)) | (exact kxch) | fail):p:=h
section
attribute [local push_cast 2000] zaU
theorem znj (right3E_dc:∀ (p:Pk) (F:Own),PkN p->DC Tryz.prog 137 [.agg [.int .i64 p.kind, .bool p.dup, .bool p.retain, .int .i64 p.qos, .int .i64 p.id, .str p.topic, .sl (p.payload.map u8), .int .i64 p.level, .str p.client, .bool p.clean, .int .i64 p.keep, .bool p.hasWill, .str p.wtopic, .sl (p.wpay.map u8), .int .i64 p.wqos, .bool p.wretain, .bool p.hasUser, .bool p.hasPass, .str p.user, .sl (p.pass.map u8), .bool p.present, .int .i64 p.code, .sl (p.subs.map encU), .sl (p.codes.map (V.int .i64))]] (([]:Own)++F) fun d G=>d = .bool (zaj p)/\G=[]++F) (p:Pk) (F:Own):(PkN p)->DC Tryz.prog 78 [.agg [.int .i64 p.kind, .bool p.dup, .bool p.retain, .int .i64 p.qos, .int .i64 p.id, .str p.topic, .sl (p.payload.map u8), .int .i64 p.level, .str p.client, .bool p.clean, .int .i64 p.keep, .bool p.hasWill, .str p.wtopic, .sl (p.wpay.map u8), .int .i64 p.wqos, .bool p.wretain, .bool p.hasUser, .bool p.hasPass, .str p.user, .sl (p.pass.map u8), .bool p.present, .int .i64 p.code, .sl (p.subs.map encU), .sl (p.codes.map (V.int .i64))]] (([]:Own)++F) fun d G=>(∃ e:Int,(putM p=[]/\e=if zaj p=true then 0 else 26)/\d = .tup [.gs (.slice none 0 0) [], .int .i64 e]/\G=F)\/∃ (v:Value) (x:YS) (e:Int),(putM p=x/\e=if zaj p=true then 0 else 26)/\d = .tup [.ar v x.length, .int .i64 e]/\G = .arr 1 v (x.map u8)::F:=by
 intro hA
 have hp:=hA
 refine DC.bodyS (n_:=49) (show Tryz.prog.funcs[78]? = some Tryz.f78 by kernel_rfl) rfl rfl (by rfl) ?_
 simp only [env0,List.cons_append,List.nil_append]
 have kw:=ksIs [0,1,2,3,4,5,6,10,12,13,17]
 have ow:=zaf [44]
 have dw10:=drIs 10 [] [1,2,4,8,9]
 repeat' (first
  | refine g_ ?_
  | ((with_reducible refine And.intro ?_ ?_);(exact zb8))
  | (refine DW.cond (by rfl) ?_ ?_<;>(first | exact i0_ | (refine ic_ ?_;intro hb)))
  | ((with_reducible first | refine zaa ?_ ?_ | refine zak ?_ ?_)<;>(intro hb;rw [hb];revert hb;(first | exact i0_ | (refine i_ ?_;intro hb))))
  | refine r_ ?_
  | refine d_ ?_
  | refine k_ ?_
  | ((refine dm_ ?_);(first | (refine v_ (right3E_dc _ _) ?_ (ha:=by exact zb8)) | ((first | refine v_ (zk7 _ _ _) ?_ (ha:=by exact zb8) | refine v_ (zej _ _) ?_ (ha:=by exact zb8)))))
  | refine vo_ ?_
  | ((first | (refine DOp.lista_ [44] rfl rfl ?_) | (refine DOp.makea_ [44] rfl rfl rfl rfl ?_))<;>(refine s_ ?_))
  | (refine q_ (right3E_dc _ _) ?_ (ha:=by exact zb8))
  | ((first | refine q_ (zk7 _ _ _) ?_ (ha:=by exact zb8) | refine q_ (zej _ _) ?_ (ha:=by exact zb8)))
  | (refine p_ (putE_dc _ _) ?_ (ha:=by exact zb8);rintro d H1 ⟨e1,he1,rfl,rfl⟩<;>refine s_ ?_)
  | refine o_ ?_
  | refine f_ ?_
  | refine vm_ ?_
  | with_reducible intro b)
 all_goals first
 | (refine ⟨_,_,le.rfl_, .inl ⟨_,⟨by unfold putM;simp [*],by simp [*]⟩,rfl,rfl⟩,?_⟩;(exact sub_);done)
 | ((refine zk2 (by assumption) ?_);(rw [zcn]);congr 1;unfold zeD zkh;(simp only [*,↓reduceIte,Int.reduceEq,or_self,or_true,true_or,or_false,false_or,if_true,if_false]);(apply zg2);(simp [IntKind.wrap,IntKind.bits,IntKind.signed]<;>omega);done)
 | ((refine zk2 (by assumption) ?_);(rw [zqr (by omega)]);congr 1;unfold zeD zkh;(simp only [*,↓reduceIte,Int.reduceEq,or_self,or_true,true_or,or_false,false_or,if_true,if_false]);done)
 | (trace_state;fail)
end
end
end Go.Proofs.YtgekknefphagbaaGreatDoor
