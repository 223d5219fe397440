/- Layer 20: packets of bytes that are none. -/
import Derived.Test.YtgekknefphagbaaGreatDoorQmx
import Derived.KernelRfl
namespace Go.Proofs.YtgekknefphagbaaGreatDoor
open Go.RowKit
set_option linter.unusedSimpArgs false
set_option linter.unusedVariables false
set_option linter.unusedSectionVars false
set_option maxHeartbeats 4000000
set_option maxRecDepth 100000
section
attribute [local irreducible] DW SeqD DV DOp DC DVX DVJ idsF usI sortS putM rightM onlyM
theorem rread0_dc (rv:V) (F:Own):((rv = .sl []\/∃ v,rv = .gs v []))->DC Tryz.prog 32 [rv] (([]:Own)++F) fun d G=>d = .tup [.agg [.int .i64 0, .bool false, .bool false, .int .i64 0, .int .i64 0, .str [], .gs (.slice none 0 0) [], .int .i64 0, .str [], .bool false, .int .i64 0, .bool false, .str [], .gs (.slice none 0 0) [], .int .i64 0, .bool false, .bool false, .bool false, .str [], .gs (.slice none 0 0) [], .bool false, .int .i64 0, .gs (.slice none 0 0) [], .gs (.slice none 0 0) []], .int .i64 0, .int .i64 20]/\G=[]++F:=by
 intro hA
 have hrv:=hA
 refine DC.bodyS (n_:=88) (show Tryz.prog.funcs[32]? = some Tryz.f32 by kernel_rfl) rfl rfl (by rfl) ?_
 simp only [env0,List.cons_append,List.nil_append]
 have kw:=ksIs [0,2,3,4,5,6,7,8,9,10,11,14,20,29,34,38,83]
 have ow:=ownIs []
 have rw_:=rsIs [.cell 2 29, .tmp 3, .tmp 4]
 rcases hrv with rfl | ⟨v,rfl⟩
 repeat' (first
  | refine g_ ?_
  | ((with_reducible refine And.intro ?_ ?_);(exact sv))
  | (refine DW.cond (by rfl) ?_ ?_<;>(first | exact i0_ | (refine ic_ ?_;intro hb)))
  | ((with_reducible refine FVg_cases ?_ ?_)<;>(intro hb;rw [hb];revert hb;(first | exact i0_ | (refine i_ ?_;intro hb))))
  | refine r_ ?_
  | refine k_ ?_
  | refine o_ ?_
  | refine f_ ?_
  | ((fail_if_success (have zz:=pb));with_reducible intro pb)
  | with_reducible intro b)
 all_goals first
 | ((first | exact fin_ | refine finq_ ?_);done)
 | (trace_state;fail)
theorem sv_rfeed0_dc {p:Prop} (h:p:=by first | exact sv | exact .inl rfl | exact .inr ⟨_,rfl⟩ | fail):p:=h
theorem rfeed0_dc (sb:Nat) (rv:V) (F:Own):((rv = .sl []\/∃ v,rv = .gs v []))->DC Tryz.prog 46 [.raw (.pointer (some ⟨sb,0,none⟩)), .sl []] (.blk sb [rv, .int .i64 0]::([]:Own)++F) fun d G=>∃ rv',(rv' = .sl []\/∃ v,rv' = .gs v [])/\d = .tup [.gs (.slice none 0 0) [], .int .i64 0]/\G = .blk sb [rv', .int .i64 0]::F:=by
 intro hA
 have hrv:=hA
 refine DC.bodyS (n_:=65) (show Tryz.prog.funcs[46]? = some Tryz.f46 by kernel_rfl) rfl rfl (by rfl) ?_
 simp only [env0,List.cons_append,List.nil_append]
 have kw:=ksIs [0,1,4,5,6,7,8,9,14,39,42]
 have ow:=ownIs []
 have dw2:=drIs 2 [] [3]
 rcases hrv with rfl | ⟨v,rfl⟩
 repeat' (first
  | ((with_reducible refine DW.loopB 0 (X:=Nat) (fun x=>x=0) (fun x=>[(0, .raw (.pointer (some ⟨sb,0,none⟩))),(4, .gs (.slice none 0 0) []),(5, .int .i64 0),(6, .gs (.slice none 0 0) [])]) (fun x=>.blk sb [.gs pb [], .int .i64 0]::([]:Own)) (fun x=>x) (0) ?_ ?_ ?_);exact (rfl);(simp [Sub,get,keepL]<;>fail);(try simp only [List.cons_append,List.nil_append]);refine pl_ ?_;intro k hk;(try simp only [List.cons_append,List.nil_append]);(try simp only at hk))
  | refine g_ ?_
  | ((with_reducible refine And.intro ?_ ?_);(exact sv_rfeed0_dc))
  | (refine DW.cond (by rfl) ?_ ?_<;>(first | exact i0_ | (refine ic_ ?_;intro hb)))
  | ((with_reducible first | refine FVg_cases ?_ ?_ | refine FDg_cases ?_ ?_)<;>(intro hb;rw [hb];revert hb;(first | exact i0_ | (refine i_ ?_;intro hb))))
  | refine r_ ?_
  | refine d_ ?_
  | refine k_ ?_
  | ((refine dm_ ?_);(first | (refine v_ (rread0_dc _ _) ?_ (ha:=by exact sv_rfeed0_dc))))
  | refine vo_ ?_
  | (refine q_ (rread0_dc _ _) ?_ (ha:=by exact sv_rfeed0_dc))
  | refine o_ ?_
  | refine f_ ?_
  | refine vm_ ?_
  | ((fail_if_success (have zz:=v9));with_reducible intro v9)
  | ((fail_if_success (have zz:=pb));with_reducible intro pb)
  | with_reducible intro b)
 all_goals first
 | (((refine ⟨_,_,le.rfl_,⟨_, .inr ⟨pb,rfl⟩,rfl,rfl⟩,?_⟩);(exact sub_);done))
 | (trace_state;fail)
theorem any_s {α:Type} [Inhabited α] {l:List α} {k:Nat} (hk:k<l.length) {p:α->Bool}:(l.take (k+1)).any p=((l.take k).any p||p (l.getD k default)):=by
 rw [takeB_s hk,List.any_append];simp
theorem sv_packets0_dc {p:Prop} (h:p:=by first | exact sv | exact hrv | fail):p:=h
theorem s_packets0_dc {P Q:Prop} (q:Q) (h:Hid Q->P:=by (intro q;simp (maxSteps:=1000000) (disch:=omega) only [push_cast,↓reduceIte,reduceCtorEq,Nat.reduceAdd,Nat.reduceMul,Nat.reduceLT,Nat.reduceLeDiff,Nat.reduceEqDiff,Nat.reduceSub,Int.reduceToNat,Int.reduceLT,Int.reduceLE,Int.reduceAdd,Int.reduceSub,Int.reduceMul,Int.reduceNeg,Nat.reduceBEq,Int.reduceBEq,Int.reduceBNe,Nat.reduceBNe,Int.reduceEq,encOu,hby];exact q.1)):P:=h ⟨q⟩
section
attribute [local push_cast 2000] encOu
theorem packets0_dc (l:List Ou) (n:Int) (F:Own):(l.length<=100/\∀ o∈l,o.conn=n->o.bytes=[])->DC Tryz.prog 15 [.sl (l.map encOu), .int .i64 n] (([]:Own)++F) fun d G=>∃ v,d = .tup [.ar v 0, .bool (l.any (fun o=>decide (o.conn=n)&&o.close))]/\G = .arr 24 v []::F:=by
 intro hA
 obtain ⟨hll,hby0⟩:=hA
 refine DC.bodyS (n_:=47) (show Tryz.prog.funcs[15]? = some Tryz.f15 by kernel_rfl) rfl rfl (by rfl) ?_
 simp only [env0,List.append_assoc,List.cons_append,List.nil_append]
 have kw:=ksIs [0,1,4,5,6,7,8,9,10,15,24]
 have ow:=ownIs []
 have hby:True:=trivial
 repeat' (first
  | ((fail_if_success (have zz:=hop));(with_reducible show DW _ _ (Code.region 8 _ _) _ _ _);(have hop:True:=trivial);(have hkl:k<l.length:=by omega);(have hcn9:=hb);(have hby:=hby0 _ (getD_inG hkl) hb))
  | ((refine DW.own0 24 7 (by rfl) ?_);(simp only [put_cons,put_nil,Nat.reduceEqDiff,↓reduceIte,if_true,if_false,reduceCtorEq]);((with_reducible refine DW.loopB 0 (X:=Nat×V×Value) (fun x=>x.1<=l.length/\(x.2.1 = .sl []\/∃ v,x.2.1 = .gs v [])) (fun x=>[(0, .sl (l.map encOu)),(1, .int .i64 n),(6, .raw (.pointer (some ⟨sb,0,none⟩))),(7, .ar x.2.2 0),(8, .bool ((l.take x.1).any (fun o=>decide (o.conn=n)&&o.close))),(9, .int .i64 x.1)]) (fun x=>.arr 24 x.2.2 [] :: .blk sb [x.2.1, .int .i64 0]::([]:Own)) (fun x=>l.length - x.1) ((0, .gs (.slice none 0 0) [], .slice none 0 0)) ?_ ?_ ?_);exact (⟨Nat.zero_le _, .inr ⟨_,rfl⟩⟩);(simp [Sub,get,keepL,List.take_zero,List.any_nil]<;>fail);(try simp only [List.append_assoc,List.cons_append,List.nil_append]);refine pl_ ?_;intro ⟨k,rv,v⟩ ⟨hk,hrv⟩;(try simp only [List.append_assoc,List.cons_append,List.nil_append]);(try simp only at hk hrv)))
  | refine g_ ?_
  | ((with_reducible refine And.intro ?_ ?_);(exact sv_packets0_dc))
  | (refine DW.cond (by rfl) ?_ ?_<;>(first | exact i0_ | (intro hb;(try simp only [↓reduceCtorEq,not_true_eq_false,not_false_eq_true,hbs,Int.reduceBEq,Int.reduceBNe,Int.reduceEq] at hb);(try refine s_packets0_dc ?_))))
  | ((with_reducible refine FVg_cases ?_ ?_)<;>(intro hb;rw [hb];revert hb;(first | exact i0_ | (intro hb;(try simp only [↓reduceCtorEq,not_true_eq_false,not_false_eq_true,hbs,Int.reduceBEq,Int.reduceBNe,Int.reduceEq] at hb);(try refine s_packets0_dc ?_)))))
  | ((first | refine rn_ ?_ | refine kn_ ?_)<;>(refine s_packets0_dc ?_))
  | (refine p_ (rfeed0_dc _ _ _) ?_ (ha:=by exact sv_packets0_dc);rintro d H1 ⟨rv2,hrv2,rfl,rfl⟩<;>refine s_packets0_dc ?_)
  | ((refine on_ ?_);refine s_packets0_dc ?_)
  | refine f_ ?_
  | ((fail_if_success (have zz:=sb));with_reducible intro sb)
  | ((fail_if_success (have zz:=v8));with_reducible intro v8)
  | with_reducible intro b)
 all_goals first
 | (((have hkl9:k<l.length:=by omega);(have e9:=any_s (p:=fun o:Ou=>decide (o.conn=n)&&o.close) hkl9);(rw [hb,Bool.true_or] at e9);(refine ⟨(k+1,rv2,v8),⟨by (try simp only);omega,by (try simp only);assumption⟩,by (try simp only);omega,?_,?_⟩);(focus ((try dsimp only);rw [e9];simp [Sub,get]));((try dsimp only);exact sub_)))
 | (((have hkl9:k<l.length:=by omega);(have e9:=any_s (p:=fun o:Ou=>decide (o.conn=n)&&o.close) hkl9);(rw [hb,Bool.false_or] at e9;simp only [hcn9,decide_true,Bool.true_and] at e9);(refine ⟨(k+1,rv2,v8),⟨by (try simp only);omega,by (try simp only);assumption⟩,by (try simp only);omega,?_,?_⟩);(focus ((try dsimp only);rw [e9];simp [Sub,get]));((try dsimp only);exact sub_)))
 | (((have hkl9:k<l.length:=by omega);(have e9:=any_s (p:=fun o:Ou=>decide (o.conn=n)&&o.close) hkl9);(simp only [decide_eq_false hb,Bool.false_and,Bool.or_false] at e9);(refine ⟨(k+1,rv,v),⟨by (try simp only);omega,by (try simp only);assumption⟩,by (try simp only);omega,?_,?_⟩);(focus ((try dsimp only);rw [e9];simp [Sub,get]));((try dsimp only);exact sub_)))
 | (((have hk9:k=l.length:=by omega);(subst hk9);(rw [List.take_length]);(refine ⟨_,_,le.rfl_,⟨v,rfl,rfl⟩,?_⟩);exact sub_))
 | (trace_state;fail)
end
end
section
theorem off_greet (n:Int) (nm:YS) (kp:Int) (cl:Bool) (hd:Int) (w:List Mg):(greetB n nm kp cl hd w).off n=⟨[],[newA nm],[]⟩:=by simp [Br.off,greetB]
def goneB (nm:YS) (cl:Bool):Br:=⟨[],if cl=true then [] else [newA nm],[]⟩
theorem leave_greet (n:Int) (nm:YS) (kp:Int) (cl:Bool) (hd:Int) (w:List Mg):leaveM n (greetB n nm kp cl hd w)=(⟨[],w,[],[]⟩,goneB nm cl):=by
 unfold leaveM
 rw [greet_conn,off_greet]
 cases cl with
 | false=>rfl
 | true =>
  have h1:(⟨[],[newA nm],[]⟩:Br).ses nm=some (newA nm):=by simp [Br.ses,newA]
  have h2:subsO ([]:List (YS×Int))=[]:=List.eq_nil_of_length_eq_zero (by rw [subsO_len];rfl)
  simp only [if_true]
  unfold forgetM
  rw [h1]
  have h3:(newA nm).subs=[]:=rfl
  simp only [h3,h2]
  unfold forgetL goneB
  simp [newA]
theorem shut_greet (n:Int) (nm:YS) (kp:Int) (cl:Bool) (hd:Int) (w:List Mg):shutM n (greetB n nm kp cl hd w)=(⟨[⟨n,[],true⟩],w,[],[]⟩,goneB nm cl):=by
 unfold shutM
 rw [leave_greet]
 unfold andM
 simp only [List.append_nil,List.nil_append,once_nil]
theorem sorted_one (n:Int):sortedI [n]=[n]:=List.perm_singleton.1 (List.mergeSort_perm _ _)
theorem sorted_nil:sortedI []=[]:=List.Perm.eq_nil (List.mergeSort_perm _ _)
theorem tick_late {n:Int} {nm:YS} {kp:Int} {cl:Bool} {hd z:Int} {w:List Mg} (h:0<kp/\3 * kp<2 * (nearI z - hd)):tickM z (greetB n nm kp cl hd w)=(⟨[⟨n,[],true⟩],w,[],[]⟩,goneB nm cl):=by
 have h1:tick1 (nearI z) (sortedI ((greetB n nm kp cl hd w).conns.map (·.n))) (greetB n nm kp cl hd w)=(⟨[⟨n,[],true⟩],w,[],[]⟩,goneB nm cl):=by
  show tick1 (nearI z) (sortedI [n]) _=_
  rw [sorted_one]
  show tickS (nearI z) (nilE,_) n=_
  have hl:lateC (nearI z) ⟨n,[],0,hd,some nm,kp,cl,w⟩=true:=by unfold lateC;rw [Bool.and_eq_true,decide_eq_true_eq,decide_eq_true_eq];exact h
  unfold tickS
  simp only [greet_conn]
  rw [if_pos hl,shut_greet]
  unfold andM nilE
  simp only [List.append_nil,List.nil_append,once_nil]
 unfold tickM
 rw [h1]
 show tick2 _ (sortedI []) _=_
 rw [sorted_nil];rfl
theorem tick_still {n:Int} {nm:YS} {kp:Int} {cl:Bool} {hd z:Int} {w:List Mg} (h:¬(0<kp/\3 * kp<2 * (nearI z - hd))):tickM z (greetB n nm kp cl hd w)=(nilE,greetB n nm kp cl hd w):=by
 have h1:tick1 (nearI z) (sortedI ((greetB n nm kp cl hd w).conns.map (·.n))) (greetB n nm kp cl hd w)=(nilE,greetB n nm kp cl hd w):=by
  show tick1 (nearI z) (sortedI [n]) _=_
  rw [sorted_one]
  show tickS (nearI z) (nilE,_) n=_
  have hl:lateC (nearI z) ⟨n,[],0,hd,some nm,kp,cl,w⟩=false:=by
   cases hl:lateC (nearI z) ⟨n,[],0,hd,some nm,kp,cl,w⟩ with
   | false=>rfl
   | true=>unfold lateC at hl;rw [Bool.and_eq_true,decide_eq_true_eq,decide_eq_true_eq] at hl;exact absurd hl h
  unfold tickS
  simp only [greet_conn]
  rw [if_neg (by rw [hl];decide)]
 unfold tickM
 rw [h1]
 show tick2 _ (sortedI [n]) _=_
 rw [sorted_one]
 show tickA (nearI z) (nilE,_) n=_
 unfold tickA
 simp only [greet_conn,Option.bind_some]
 have h2:sesD nm (greetB n nm kp cl hd w)=newA nm:=by simp [sesD,Br.ses,greetB,newA]
 rw [h2]
 have h3:againB (nearI z) nm (greetB n nm kp cl hd w)=greetB n nm kp cl hd w:=by simp [againB,greetB,newA,againA]
 rw [h3];rfl
attribute [local irreducible] SN.own ownT ownC ownS ownB shutM leaveM forgetM onceS nameB outM connectM connB newB freshB greetB goneB tickM
attribute [local irreducible] DW SeqD DV DOp DC DVX DVJ idsF usI sortS putM rightM onlyM
theorem btick_dc (bb:Nat) (m:Int) (s:BN) (z:Int) (F:Own):(BOK s/\BSz s.pl)->DC Tryz.prog 20 [.raw (.pointer (some ⟨bb,0,none⟩)), .int .i64 z] ((loose::knF::knA::knM m::(ownB bb s++[]))++F) fun d G=>∃ s':BN,(BOK s'/\s'.pl=(tickM z s.pl).2)/\d=encEf (tickM z s.pl).1/\G=loose::knF::knA::knM m::(ownB bb s'++F):=fun h =>
 DC.frzE (X:=BN) (Q:=fun s'=>BOK s'/\s'.pl=(tickM z s.pl).2) (l1:=fun _=>(tickM z s.pl).1.outs.map encOu) (l2:=fun _=>(tickM z s.pl).1.pubs.map encM) (l3:=fun _=>(tickM z s.pl).1.adds.map V.str) (l4:=fun _=>(tickM z s.pl).1.drops.map V.str) (L:=fun s'=>loose::knF::knA::knM m::(ownB bb s'++F))
  (fun _ j hj=>(ou_ok _ j hj).1) (fun _=>mg_n _) (fun _=>st_n _) (fun _=>st_n _)
  ((tickR_dc bb m s z F h).mono fun d G ⟨w1,w2,w3,w4,s',n1,n2,n3,n4,c1,c2,c3,c4,⟨hq,hr⟩,hd,hG⟩=>⟨w1,w2,w3,w4,s',hq,by rw [hd,hr.n1,hr.n2,hr.n3,hr.n4];simp only [List.length_map],by rw [hG,hr.c1,hr.c2,hr.c3,hr.c4];simp only [cells_str]⟩)
theorem kTickY_dc (bb:Nat) (m:Int) (s:BN) (n:Int) (nm:YS) (cl:Bool) (kp hd z:Int) (w:List Mg) (F:Own):(BOK s/\s.pl=greetB n nm kp cl hd w/\0<kp/\3 * kp<2 * (nearI z - hd))->DC Tryz.prog 20 [.raw (.pointer (some ⟨bb,0,none⟩)), .int .i64 z] ((loose::knF::knA::knM m::(ownB bb s++[]))++F) fun d G=>∃ s':BN,(BOK s'/\s'.pl=goneB nm cl)/\d=encEf ⟨[⟨n,[],true⟩],w,[],[]⟩/\G=loose::knF::knA::knM m::(ownB bb s'++F):=fun ⟨h,hp,hl⟩=>by
 have h1:=btick_dc bb m s z F ⟨h,by rw [hp];exact greetB_sz ..⟩
 rwa [hp,tick_late hl] at h1
theorem kTickN_dc (bb:Nat) (m:Int) (s:BN) (n:Int) (nm:YS) (cl:Bool) (kp hd z:Int) (w:List Mg) (F:Own):(BOK s/\s.pl=greetB n nm kp cl hd w/\¬(0<kp/\3 * kp<2 * (nearI z - hd)))->DC Tryz.prog 20 [.raw (.pointer (some ⟨bb,0,none⟩)), .int .i64 z] ((loose::knF::knA::knM m::(ownB bb s++[]))++F) fun d G=>∃ s':BN,(BOK s'/\s'.pl=greetB n nm kp cl hd w)/\d=encEf nilE/\G=loose::knF::knA::knM m::(ownB bb s'++F):=fun ⟨h,hp,hl⟩=>by
 have h1:=btick_dc bb m s z F ⟨h,by rw [hp];exact greetB_sz ..⟩
 rwa [hp,tick_still hl] at h1
theorem kCliG_dc (bb:Nat) (s:BN) (n:Int) (nm:YS) (cl:Bool) (F:Own):(BOK s/\s.pl=goneB nm cl)->DC Tryz.prog 17 [.raw (.pointer (some ⟨bb,0,none⟩)), .int .i64 n] ((ownB bb s++[])++F) fun d G=>d = .str []/\G=(ownB bb s++[])++F:=fun ⟨h,hp⟩=>by
 have h1:=bcli_dc bb s n F h
 have h2:clientM n (goneB nm cl)=[]:=by unfold clientM goneB Br.conn;rfl
 rwa [hp,h2] at h1
theorem pkY_dc (n:Int) (F:Own):True->DC Tryz.prog 15 [.sl [.agg [.int .i64 0, .int .i64 n, .sl [], .bool true]], .int .i64 n] (([]:Own)++F) fun d G=>∃ v,d = .tup [.ar v 0, .bool true]/\G = .arr 24 v []::F:=fun _=>by
 have h1:=packets0_dc [⟨n,[],true⟩] n F ⟨by simp,fun o ho _=>by rw [List.mem_singleton.1 ho]⟩
 simp only [List.any_cons,List.any_nil,decide_true,Bool.true_and,Bool.or_false] at h1
 exact h1
theorem pkN_dc (n:Int) (F:Own):True->DC Tryz.prog 15 [.sl [], .int .i64 n] (([]:Own)++F) fun d G=>∃ v,d = .tup [.ar v 0, .bool false]/\G = .arr 24 v []::F:=fun _ =>
 packets0_dc [] n F ⟨Nat.zero_le _,fun o ho=>nomatch ho⟩
theorem sv_brokerKeeps_dc {p:Prop} (h:p:=by first | exact sv | exact ⟨hs0,hp0,by decide,by decide⟩ | exact ⟨hs1,hp1,⟨by decide,by decide⟩,by decide,by decide,by omega,by omega⟩ | exact ⟨hs2,hp2⟩ | exact ⟨hs3,hp3,hL1,hL2⟩ | exact ⟨hs3,hp3,hL0⟩ | exact ⟨hs4,hp4⟩ | fail):p:=h
section
attribute [local push_cast 2000] encEf encOu List.map_cons List.map_nil nilE_o nilE_p nilE_a nilE_d
theorem brokerKeeps_dc (k a b:Int) (T5:TypeId) (fr5:Nat×Nat) (m:Int) (F:Own):((0<=k/\k<=255)/\(0<=a/\a<=255)/\(0<=b/\b<=255))->DC Tryz.prog 5 [.int .u8 k, .int .u8 a, .int .u8 b] ([loose,knP T5 fr5,knF,knA,knM m]++F) fun d G=>d = .bool true/\G=[loose,knP T5 fr5,knF,knA,knM m]++F:=by
 intro hA
 obtain ⟨hk,ha,hb_⟩:=hA
 refine DC.bodyS (n_:=69) (show Tryz.prog.funcs[5]? = some Tryz.f5 by kernel_rfl) rfl rfl (by rfl) ?_
 simp only [env0,List.append_assoc,List.cons_append,List.nil_append]
 have kw:=ksIs [0,1,2,6,7,8,9,10,12,14]
 have ow:=ownIs []
 have r1:=Int.tmod_nonneg 20 hk.1;have r2:=Int.tmod_lt_of_pos k (show (0:Int)<20 by decide)
 have r3:=Int.tmod_nonneg 30 ha.1;have r4:=Int.tmod_lt_of_pos a (show (0:Int)<30 by decide)
 have r5:=Int.tmod_nonneg 40 hb_.1;have r6:=Int.tmod_lt_of_pos b (show (0:Int)<40 by decide)
 have n1:nearI (a.tmod 30)=a.tmod 30:=nearI_id (by omega)
 have n2:nearI (a.tmod 30+b.tmod 40)=a.tmod 30+b.tmod 40:=nearI_id (by omega)
 have hL:(0<k.tmod 20/\3 * k.tmod 20<2 * (nearI (a.tmod 30+b.tmod 40) - nearI (a.tmod 30)))\/¬(0<k.tmod 20/\3 * k.tmod 20<2 * (nearI (a.tmod 30+b.tmod 40) - nearI (a.tmod 30))):=Decidable.em _
 rcases hL with ⟨hL1,hL2⟩ | hL0
 repeat' (first
  | refine g_ ?_
  | ((with_reducible refine And.intro ?_ ?_);(exact sv_brokerKeeps_dc))
  | (refine DW.cond (by rfl) ?_ ?_<;>(first | exact i0_ | (refine ic_ ?_;intro hb)))
  | ((with_reducible refine FVg_cases ?_ ?_)<;>(intro hb;rw [hb];revert hb;(first | exact i0_ | (refine i_ ?_;intro hb))))
  | refine r_ ?_
  | refine k_ ?_
  | (refine q_ (known20_dc _ _ _ _) ?_ (ha:=by exact sv_brokerKeeps_dc))
  | (refine p_ (bnew_dc _) ?_ (ha:=by exact sv_brokerKeeps_dc);rintro d H1 ⟨bb,s0,⟨hs0,hp0⟩,rfl,rfl⟩<;>refine s_ ?_)
  | (refine p_ (kOpen_dc _ _ _ _) ?_ (ha:=by exact sv_brokerKeeps_dc);rintro d H1 ⟨s1,⟨hs1,hp1⟩,rfl,rfl⟩<;>refine s_ ?_)
  | (refine p_ (kTake_dc _ _ _ _ _ _ _ _ _ _) ?_ (ha:=by exact sv_brokerKeeps_dc);rintro d H1 ⟨s2,⟨hs2,hp2⟩,rfl,rfl⟩<;>refine s_ ?_)
  | (refine p_ (kPing_dc (nm:=[107]) (cl:=true) (kp:=k.tmod 20) (hd:=0) (w:=[]) _ _ _ _ _ _) ?_ (ha:=by exact sv_brokerKeeps_dc);rintro d H1 ⟨s3,⟨hs3,hp3⟩,rfl,rfl⟩<;>refine s_ ?_)
  | (refine p_ (kTickY_dc (n:=0) (nm:=[107]) (cl:=true) (kp:=k.tmod 20) (hd:=nearI (a.tmod 30)) (w:=[]) _ _ _ _ _) ?_ (ha:=by exact sv_brokerKeeps_dc);rintro d H1 ⟨s4,⟨hs4,hp4⟩,rfl,rfl⟩<;>refine s_ ?_)
  | (refine p_ (kTickN_dc (n:=0) (nm:=[107]) (cl:=true) (kp:=k.tmod 20) (hd:=nearI (a.tmod 30)) (w:=[]) _ _ _ _ _) ?_ (ha:=by exact sv_brokerKeeps_dc);rintro d H1 ⟨s4,⟨hs4,hp4⟩,rfl,rfl⟩<;>refine s_ ?_)
  | (refine p_ (pkY_dc _ _) ?_ (ha:=by exact sv_brokerKeeps_dc);rintro d H1 ⟨v9,rfl,rfl⟩<;>refine s_ ?_)
  | (refine p_ (pkN_dc _ _) ?_ (ha:=by exact sv_brokerKeeps_dc);rintro d H1 ⟨v9,rfl,rfl⟩<;>refine s_ ?_)
  | (refine q_ (kCli_dc (nm:=[107]) (cl:=true) (kp:=k.tmod 20) (hd:=nearI (a.tmod 30)) (w:=[]) _ _ _ _) ?_ (ha:=by exact sv_brokerKeeps_dc))
  | (refine q_ (kCliG_dc (nm:=[107]) (cl:=true) _ _ _ _) ?_ (ha:=by exact sv_brokerKeeps_dc))
  | refine o_ ?_
  | refine f_ ?_
  | ((fail_if_success (have zz:=eb));with_reducible intro eb)
  | with_reducible intro b)
 all_goals first
 | ((exact absurd rfl hb))
 | ((first | exact fin_ | refine finq_ ?_);done)
 | (trace_state;fail)
end
end
end Go.Proofs.YtgekknefphagbaaGreatDoor
