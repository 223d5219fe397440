/- Layer 20: packets of bytes that are none. -/
import Derived.Test.YtgekknefphagbaaGreatDoorQmx
import Derived.KernelRfl
namespace Go.Proofs.YtgekknefphagbaaGreatDoor
open Go.RowKit
set_option linter.unusedSimpArgs false
set_option linter.unusedVariables false
set_option linter.unusedSectionVars false
set_option maxHeartbeats 4000000
set_option maxRecDepth 100000
section
attribute [local irreducible] DW SeqD DV DOp DC DVX DVJ idsF usI sortS putM zay onlyM
theorem zis (rv:V) (F:Own):((rv = .sl []\/∃ v,rv = .gs v []))->DC Tryz.prog 32 [rv] (([]:Own)++F) fun d G=>d = .tup [.agg [.int .i64 0, .bool false, .bool false, .int .i64 0, .int .i64 0, .str [], .gs (.slice none 0 0) [], .int .i64 0, .str [], .bool false, .int .i64 0, .bool false, .str [], .gs (.slice none 0 0) [], .int .i64 0, .bool false, .bool false, .bool false, .str [], .gs (.slice none 0 0) [], .bool false, .int .i64 0, .gs (.slice none 0 0) [], .gs (.slice none 0 0) []], .int .i64 0, .int .i64 20]/\G=[]++F:=by
 intro hA
 have hrv:=hA
 refine DC.bodyS (n_:=88) (show Tryz.prog.funcs[32]? = some Tryz.f32 by kernel_rfl) rfl rfl (by rfl) ?_
 simp only [env0,List.cons_append,List.nil_append]
 have kw:=ksIs [0,2,3,4,5,6,7,8,9,10,11,14,20,29,34,38,83]
 have ow:=zai []
 have rw_:=rsIs [.cell 2 29, .tmp 3, .tmp 4]
 rcases hrv with rfl | ⟨v,rfl⟩
 repeat' (first
  | refine g_ ?_
  | ((with_reducible refine And.intro ?_ ?_);(exact sv))
  | (refine DW.cond (by rfl) ?_ ?_<;>(first | exact i0_ | (refine ic_ ?_;intro hb)))
  | ((with_reducible refine zaa ?_ ?_)<;>(intro hb;rw [hb];revert hb;(first | exact i0_ | (refine i_ ?_;intro hb))))
  | refine r_ ?_
  | refine k_ ?_
  | refine o_ ?_
  | refine f_ ?_
  | ((fail_if_success (have zz:=pb));with_reducible intro pb)
  | with_reducible intro b)
 all_goals first
 | ((first | exact fin_ | refine finq_ ?_);done)
 | (trace_state;fail)
theorem zdS {p:Prop} (h:p:=by first | exact sv | exact .inl rfl | exact .inr ⟨_,rfl⟩ | fail):p:=h
theorem zn8 (sb:Nat) (rv:V) (F:Own):((rv = .sl []\/∃ v,rv = .gs v []))->DC Tryz.prog 46 [.raw (.pointer (some ⟨sb,0,none⟩)), .sl []] (.blk sb [rv, .int .i64 0]::([]:Own)++F) fun d G=>∃ rv',(rv' = .sl []\/∃ v,rv' = .gs v [])/\d = .tup [.gs (.slice none 0 0) [], .int .i64 0]/\G = .blk sb [rv', .int .i64 0]::F:=by
 intro hA
 have hrv:=hA
 refine DC.bodyS (n_:=65) (show Tryz.prog.funcs[46]? = some Tryz.f46 by kernel_rfl) rfl rfl (by rfl) ?_
 simp only [env0,List.cons_append,List.nil_append]
 have kw:=ksIs [0,1,4,5,6,7,8,9,14,39,42]
 have ow:=zai []
 have dw2:=drIs 2 [] [3]
 rcases hrv with rfl | ⟨v,rfl⟩
 repeat' (first
  | ((with_reducible refine DW.loopB 0 (X:=Nat) (fun x=>x=0) (fun x=>[(0, .raw (.pointer (some ⟨sb,0,none⟩))),(4, .gs (.slice none 0 0) []),(5, .int .i64 0),(6, .gs (.slice none 0 0) [])]) (fun x=>.blk sb [.gs pb [], .int .i64 0]::([]:Own)) (fun x=>x) (0) ?_ ?_ ?_);exact (rfl);(simp [Sub,get,zbu]<;>fail);(try simp only [List.cons_append,List.nil_append]);refine pl_ ?_;intro k hk;(try simp only [List.cons_append,List.nil_append]);(try simp only at hk))
  | refine g_ ?_
  | ((with_reducible refine And.intro ?_ ?_);(exact zdS))
  | (refine DW.cond (by rfl) ?_ ?_<;>(first | exact i0_ | (refine ic_ ?_;intro hb)))
  | ((with_reducible first | refine zaa ?_ ?_ | refine zak ?_ ?_)<;>(intro hb;rw [hb];revert hb;(first | exact i0_ | (refine i_ ?_;intro hb))))
  | refine r_ ?_
  | refine d_ ?_
  | refine k_ ?_
  | ((refine dm_ ?_);(first | (refine v_ (zis _ _) ?_ (ha:=by exact zdS))))
  | refine vo_ ?_
  | (refine q_ (zis _ _) ?_ (ha:=by exact zdS))
  | refine o_ ?_
  | refine f_ ?_
  | refine vm_ ?_
  | ((fail_if_success (have zz:=v9));with_reducible intro v9)
  | ((fail_if_success (have zz:=pb));with_reducible intro pb)
  | with_reducible intro b)
 all_goals first
 | (((refine ⟨_,_,le.rfl_,⟨_, .inr ⟨pb,rfl⟩,rfl,rfl⟩,?_⟩);(exact sub_);done))
 | (trace_state;fail)
theorem any_s {α:Type} [Inhabited α] {l:List α} {k:Nat} (hk:k<l.length) {p:α->Bool}:(l.take (k+1)).any p=((l.take k).any p||p (l.getD k default)):=by
 rw [zjN hk,List.any_append];simp
theorem zeo {p:Prop} (h:p:=by first | exact sv | exact hrv | fail):p:=h
theorem zog {P Q:Prop} (q:Q) (h:Hid Q->P:=by (intro q;simp (maxSteps:=1000000) (disch:=omega) only [push_cast,↓reduceIte,reduceCtorEq,Nat.reduceAdd,Nat.reduceMul,Nat.reduceLT,Nat.reduceLeDiff,Nat.reduceEqDiff,Nat.reduceSub,Int.reduceToNat,Int.reduceLT,Int.reduceLE,Int.reduceAdd,Int.reduceSub,Int.reduceMul,Int.reduceNeg,Nat.reduceBEq,Int.reduceBEq,Int.reduceBNe,Nat.reduceBNe,Int.reduceEq,hby];exact q.1)):P:=h ⟨q⟩
section
attribute [local push_cast 2000] encOu
theorem zjX (l:List Ou) (n:Int) (F:Own):(l.length<=100/\∀ o∈l,o.conn=n->o.bytes=[])->DC Tryz.prog 15 [.sl (l.map encOu), .int .i64 n] (([]:Own)++F) fun d G=>∃ v,d = .tup [.ar v 0, .bool (l.any (fun o=>decide (o.conn=n)&&o.close))]/\G = .arr 24 v []::F:=by
 intro hA
 obtain ⟨hll,hby0⟩:=hA
 refine DC.bodyS (n_:=47) (show Tryz.prog.funcs[15]? = some Tryz.f15 by kernel_rfl) rfl rfl (by rfl) ?_
 simp only [env0,List.append_assoc,List.cons_append,List.nil_append]
 have kw:=ksIs [0,1,4,5,6,7,8,9,10,15,24]
 have ow:=zai []
 have hby:True:=trivial
 repeat' (first
  | ((fail_if_success (have zz:=hop));(with_reducible show DW _ _ (Code.region 8 _ _) _ _ _);(have hop:True:=trivial);(have hkl:k<l.length:=by omega);(have hcn9:=hb);(have hby:=hby0 _ (zib hkl) hb))
  | ((refine DW.own0 24 7 (by rfl) ?_);(simp only [zdz,zew,Nat.reduceEqDiff,↓reduceIte,if_true,if_false,reduceCtorEq]);((with_reducible refine DW.loopB 0 (X:=Nat×V×Value) (fun x=>x.1<=l.length/\(x.2.1 = .sl []\/∃ v,x.2.1 = .gs v [])) (fun x=>[(0, .sl (l.map encOu)),(1, .int .i64 n),(6, .raw (.pointer (some ⟨sb,0,none⟩))),(7, .ar x.2.2 0),(8, .bool ((l.take x.1).any (fun o=>decide (o.conn=n)&&o.close))),(9, .int .i64 x.1)]) (fun x=>.arr 24 x.2.2 [] :: .blk sb [x.2.1, .int .i64 0]::([]:Own)) (fun x=>l.length - x.1) ((0, .gs (.slice none 0 0) [], .slice none 0 0)) ?_ ?_ ?_);exact (⟨Nat.zero_le _, .inr ⟨_,rfl⟩⟩);(simp [Sub,get,zbu,List.take_zero,List.any_nil]<;>fail);(try simp only [List.append_assoc,List.cons_append,List.nil_append]);refine pl_ ?_;intro ⟨k,rv,v⟩ ⟨hk,hrv⟩;(try simp only [List.append_assoc,List.cons_append,List.nil_append]);(try simp only at hk hrv)))
  | refine g_ ?_
  | ((with_reducible refine And.intro ?_ ?_);(exact zeo))
  | (refine DW.cond (by rfl) ?_ ?_<;>(first | exact i0_ | (intro hb;(try simp only [↓reduceCtorEq,not_true_eq_false,not_false_eq_true,hbs,Int.reduceBEq,Int.reduceBNe,Int.reduceEq] at hb);(try refine zog ?_))))
  | ((with_reducible refine zaa ?_ ?_)<;>(intro hb;rw [hb];revert hb;(first | exact i0_ | (intro hb;(try simp only [↓reduceCtorEq,not_true_eq_false,not_false_eq_true,hbs,Int.reduceBEq,Int.reduceBNe,Int.reduceEq] at hb);(try refine zog ?_)))))
  | ((first | refine rn_ ?_ | refine kn_ ?_)<;>(refine zog ?_))
  | (refine p_ (zn8 _ _ _) ?_ (ha:=by exact zeo);rintro d H1 ⟨rv2,hrv2,rfl,rfl⟩<;>refine zog ?_)
  | ((refine on_ ?_);refine zog ?_)
  | refine f_ ?_
  | ((fail_if_success (have zz:=sb));with_reducible intro sb)
  | ((fail_if_success (have zz:=v8));with_reducible intro v8)
  | with_reducible intro b)
 all_goals first
 | (((have hkl9:k<l.length:=by omega);(have e9:=any_s (p:=fun o:Ou=>decide (o.conn=n)&&o.close) hkl9);(rw [hb,Bool.true_or] at e9);(refine ⟨(k+1,rv2,v8),⟨by (try simp only);omega,by (try simp only);assumption⟩,by (try simp only);omega,?_,?_⟩);(focus ((try dsimp only);rw [e9];simp [Sub,get]));((try dsimp only);exact sub_)))
 | (((have hkl9:k<l.length:=by omega);(have e9:=any_s (p:=fun o:Ou=>decide (o.conn=n)&&o.close) hkl9);(rw [hb,Bool.false_or] at e9;simp only [hcn9,decide_true,Bool.true_and] at e9);(refine ⟨(k+1,rv2,v8),⟨by (try simp only);omega,by (try simp only);assumption⟩,by (try simp only);omega,?_,?_⟩);(focus ((try dsimp only);rw [e9];simp [Sub,get]));((try dsimp only);exact sub_)))
 | (((have hkl9:k<l.length:=by omega);(have e9:=any_s (p:=fun o:Ou=>decide (o.conn=n)&&o.close) hkl9);(simp only [decide_eq_false hb,Bool.false_and,Bool.or_false] at e9);(refine ⟨(k+1,rv,v),⟨by (try simp only);omega,by (try simp only);assumption⟩,by (try simp only);omega,?_,?_⟩);(focus ((try dsimp only);rw [e9];simp [Sub,get]));((try dsimp only);exact sub_)))
 | (((have hk9:k=l.length:=by omega);(subst hk9);(rw [List.take_length]);(refine ⟨_,_,le.rfl_,⟨v,rfl,rfl⟩,?_⟩);exact sub_))
 | (trace_state;fail)
end
end
section
theorem znP (n:Int) (nm:YS) (kp:Int) (cl:Bool) (hd:Int) (w:List Mg):(zbW n nm kp cl hd w).off n=⟨[],[newA nm],[]⟩:=by simp [Br.off,zbW]
def ziW (nm:YS) (cl:Bool):Br:=⟨[],if cl=true then [] else [newA nm],[]⟩
theorem zjF (n:Int) (nm:YS) (kp:Int) (cl:Bool) (hd:Int) (w:List Mg):za8 n (zbW n nm kp cl hd w)=(⟨[],w,[],[]⟩,ziW nm cl):=by
 unfold za8
 rw [zel,znP]
 cases cl with
 | false=>rfl
 | true =>
  have h1:(⟨[],[newA nm],[]⟩:Br).ses nm=some (newA nm):=by simp [Br.ses,newA]
  have h2:zar ([]:List (YS×Int))=[]:=List.eq_nil_of_length_eq_zero (by rw [zc6];rfl)
  simp only [if_true]
  unfold zah
  rw [h1]
  have h3:(newA nm).subs=[]:=rfl
  simp only [h3,h2]
  unfold zag ziW
  simp [newA]
theorem zl0 (n:Int) (nm:YS) (kp:Int) (cl:Bool) (hd:Int) (w:List Mg):zae n (zbW n nm kp cl hd w)=(⟨[⟨n,[],true⟩],w,[],[]⟩,ziW nm cl):=by
 unfold zae
 rw [zjF]
 unfold andM
 simp only [List.append_nil,List.nil_append,zeh]
theorem zly (n:Int):sortedI [n]=[n]:=List.perm_singleton.1 (List.mergeSort_perm _ _)
attribute [local irreducible] SN.own ownT ownC ownS ownB zae za8 zah zaR zbD outM zaT zeQ newB zb5 zbW ziW zem
attribute [local irreducible] DW SeqD DV DOp DC DVX DVJ idsF usI sortS putM zay onlyM
theorem zo0 (bb:Nat) (m:Int) (s:BN) (z:Int) (F:Own):(BOK s/\BSz s.pl)->DC Tryz.prog 20 [.raw (.pointer (some ⟨bb,0,none⟩)), .int .i64 z] ((loose::knF::knA::knM m::(ownB bb s++[]))++F) fun d G=>∃ s':BN,(BOK s'/\s'.pl=(zem z s.pl).2)/\d=zb8 (zem z s.pl).1/\G=loose::knF::knA::knM m::(ownB bb s'++F):=fun h =>
 DC.frzE (X:=BN) (Q:=fun s'=>BOK s'/\s'.pl=(zem z s.pl).2) (l1:=fun _=>(zem z s.pl).1.outs.map encOu) (l2:=fun _=>(zem z s.pl).1.pubs.map encM) (l3:=fun _=>(zem z s.pl).1.adds.map V.str) (l4:=fun _=>(zem z s.pl).1.drops.map V.str) (L:=fun s'=>loose::knF::knA::knM m::(ownB bb s'++F))
  (fun _ j hj=>(zfe _ j hj).1) (fun _=>mg_n _) (fun _=>st_n _) (fun _=>st_n _)
  ((zoI bb m s z F h).mono fun d G ⟨w1,w2,w3,w4,s',n1,n2,n3,n4,c1,c2,c3,c4,⟨hq,hr⟩,hd,hG⟩=>⟨w1,w2,w3,w4,s',hq,by rw [hd,hr.n1,hr.n2,hr.n3,hr.n4];simp only [List.length_map],by rw [hG,hr.c1,hr.c2,hr.c3,hr.c4];simp only [zb4]⟩)
theorem pkY_dc (n:Int) (F:Own):True->DC Tryz.prog 15 [.sl [.agg [.int .i64 0, .int .i64 n, .sl [], .bool true]], .int .i64 n] (([]:Own)++F) fun d G=>∃ v,d = .tup [.ar v 0, .bool true]/\G = .arr 24 v []::F:=fun _=>by
 have h1:=zjX [⟨n,[],true⟩] n F ⟨by simp,fun o ho _=>by rw [List.mem_singleton.1 ho]⟩
 simp only [List.any_cons,List.any_nil,decide_true,Bool.true_and,Bool.or_false] at h1
 exact h1
section
attribute [local push_cast 2000] zb8 encOu List.map_cons List.map_nil zf7 zfA zf6 zfy
end
end
end Go.Proofs.YtgekknefphagbaaGreatDoor
