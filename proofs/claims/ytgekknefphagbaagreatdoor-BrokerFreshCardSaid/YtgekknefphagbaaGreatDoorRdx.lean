/- Layer 20: a tick of one connection; who is silent for too long. -/
import Derived.Test.YtgekknefphagbaaGreatDoorQnx
import Derived.KernelRfl
import Derived.Test.YtgekknefphagbaaGreatDoorQjx
namespace Go.Proofs.YtgekknefphagbaaGreatDoor
open Go.RowKit
set_option linter.unusedSimpArgs false
set_option linter.unusedVariables false
set_option linter.unusedSectionVars false
set_option maxHeartbeats 4000000
set_option maxRecDepth 100000
section
theorem zmz (n:Int) (nm:YS) (kp:Int) (cl:Bool) (hd:Int) (w:List Mg):(zbW n nm kp cl hd w).off n=⟨[],[newA nm],[]⟩:=by simp [Br.off,zbW]
def zin (nm:YS) (cl:Bool):Br:=⟨[],if cl=true then [] else [newA nm],[]⟩
theorem zjF (n:Int) (nm:YS) (kp:Int) (cl:Bool) (hd:Int) (w:List Mg):za1 n (zbW n nm kp cl hd w)=(⟨[],w,[],[]⟩,zin nm cl):=by
 unfold za1
 rw [zdX,zmz]
 cases cl with
 | false=>rfl
 | true =>
  have h1:(⟨[],[newA nm],[]⟩:Br).ses nm=some (newA nm):=by simp [Br.ses,newA]
  have h2:zar ([]:List (YS×Int))=[]:=List.eq_nil_of_length_eq_zero (by rw [zc4];rfl)
  simp only [if_true]
  unfold zah
  rw [h1]
  have h3:(newA nm).subs=[]:=rfl
  simp only [h3,h2]
  unfold zag zin
  simp [newA]
theorem zl6 (n:Int) (nm:YS) (kp:Int) (cl:Bool) (hd:Int) (w:List Mg):zae n (zbW n nm kp cl hd w)=(⟨[⟨n,[],true⟩],w,[],[]⟩,zin nm cl):=by
 unfold zae
 rw [zjF]
 unfold andM
 simp only [List.append_nil,List.nil_append,zec]
theorem zlH (n:Int):sortedI [n]=[n]:=List.perm_singleton.1 (List.mergeSort_perm _ _)
attribute [local irreducible] SN.own ownT ownC ownS ownB zae za1 zah zaC zbF outM zaG zeG newB zb3 zbW zin zek
attribute [local irreducible] DW SeqD DV DOp DC DVX DVJ idsF usI sortS putM zax onlyM
theorem zoW (bb:Nat) (m:Int) (s:BN) (z:Int) (F:Own):(BOK s/\BSz s.pl)->DC Tryz.prog 20 [.raw (.pointer (some ⟨bb,0,none⟩)), .int .i64 z] ((loose::knF::knA::knM m::(ownB bb s++[]))++F) fun d G=>∃ s':BN,(BOK s'/\s'.pl=(zek z s.pl).2)/\d=zb7 (zek z s.pl).1/\G=loose::knF::knA::knM m::(ownB bb s'++F):=fun h =>
 DC.frzE (X:=BN) (Q:=fun s'=>BOK s'/\s'.pl=(zek z s.pl).2) (l1:=fun _=>(zek z s.pl).1.outs.map encOu) (l2:=fun _=>(zek z s.pl).1.pubs.map encM) (l3:=fun _=>(zek z s.pl).1.adds.map V.str) (l4:=fun _=>(zek z s.pl).1.drops.map V.str) (L:=fun s'=>loose::knF::knA::knM m::(ownB bb s'++F))
  (fun _ j hj=>(zfk _ j hj).1) (fun _=>mg_n _) (fun _=>st_n _) (fun _=>st_n _)
  ((zoy bb m s z F h).mono fun d G ⟨w1,w2,w3,w4,s',n1,n2,n3,n4,c1,c2,c3,c4,⟨hq,hr⟩,hd,hG⟩=>⟨w1,w2,w3,w4,s',hq,by rw [hd,hr.n1,hr.n2,hr.n3,hr.n4];simp only [List.length_map],by rw [hG,hr.c1,hr.c2,hr.c3,hr.c4];simp only [zb1]⟩)
theorem pkY_dc (n:Int) (F:Own):True->DC Tryz.prog 15 [.sl [.agg [.int .i64 0, .int .i64 n, .sl [], .bool true]], .int .i64 n] (([]:Own)++F) fun d G=>∃ v,d = .tup [.ar v 0, .bool true]/\G = .arr 24 v []::F:=fun _=>by
 have h1:=zju [⟨n,[],true⟩] n F ⟨by simp,fun o ho _=>by rw [List.mem_singleton.1 ho]⟩
 simp only [List.any_cons,List.any_nil,decide_true,Bool.true_and,Bool.or_false] at h1
 exact h1
section
attribute [local push_cast 2000] zb7 encOu List.map_cons List.map_nil zfy zf7 zf3 zfu
end
end
section
attribute [local irreducible] DW SeqD DV DOp DC DVX DVJ idsF usI sortS putM zax onlyM
theorem topY_ok (k:Int) (h:0<=k):zbF (topY k)=true/\(topY k).length<=100:=by
 have q0:=Int.tmod_nonneg 7 h;have q1:=Int.tmod_lt_of_pos k (show (0:Int)<7 by decide)
 rcases (show k.tmod 7=0\/k.tmod 7=1\/k.tmod 7=2\/k.tmod 7=3\/k.tmod 7=4\/k.tmod 7=5\/k.tmod 7=6 by omega) with hkm | hkm | hkm | hkm | hkm | hkm | hkm<;>(unfold topY;rw [hkm];exact ⟨by decide,by decide⟩)
section
attribute [local push_cast 2000] zby zba
theorem zqJ (m:Mg) (F:Own):(m.pay.length<=100000)->DC Tryz.prog 55 [.agg [.str m.topic, .sl (m.pay.map u8), .int .i64 m.qos, .bool m.retain], .agg [.str m.topic, .sl (m.pay.map u8), .int .i64 m.qos, .bool m.retain]] (([]:Own)++F) fun d G=>d = .bool true/\G=[]++F:=by
 intro hA
 have hml:=hA
 refine DC.bodyS (n_:=33) (show Tryz.prog.funcs[55]? = some Tryz.f55 by kernel_rfl) rfl rfl (by rfl) ?_
 simp only [env0,List.cons_append,List.nil_append]
 have kw:=ksIs [0,1,2,3,4]
 have ow:=zai []
 repeat' (first
  | refine g_ ?_
  | ((with_reducible refine And.intro ?_ ?_);(exact sv_msg_dc))
  | (refine DW.cond (by rfl) ?_ ?_<;>(first | exact i0_ | (refine ic_ ?_;intro hb)))
  | ((with_reducible refine zaa ?_ ?_)<;>(intro hb;rw [hb];revert hb;(first | exact i0_ | (refine i_ ?_;intro hb))))
  | refine r_ ?_
  | refine k_ ?_
  | refine o_ ?_
  | refine f_ ?_
  | with_reducible intro b)
 all_goals first
 | ((exact absurd rfl hb))
 | ((first | exact fin_ | refine finq_ ?_);done)
 | (trace_state;fail)
end
theorem zeT {p:Prop} (h:p:=by first | exact sv | exact hmk _ (zhI (by omega)) | fail):p:=h
section
attribute [local push_cast 2000] encM
theorem msgs_dc (l:List Mg) (F:Own):(l.length<=1000/\∀ m∈l,m.pay.length<=100000)->DC Tryz.prog 24 [.sl (l.map encM), .sl (l.map encM)] (([]:Own)++F) fun d G=>d = .bool true/\G=[]++F:=by
 intro hA
 obtain ⟨hll,hmk⟩:=hA
 refine DC.bodyS (n_:=27) (show Tryz.prog.funcs[24]? = some Tryz.f24 by kernel_rfl) rfl rfl (by rfl) ?_
 simp only [env0,List.cons_append,List.nil_append]
 have kw:=ksIs [0,1,4,5,10,14,26]
 have ow:=zai []
 have dw6:=drIs 6 [] [3,7,8]
 repeat' (first
  | ((with_reducible refine DW.loopB 0 (X:=Nat) (fun x=>x<=l.length) (fun x=>[(0, .sl (l.map encM)),(1, .sl (l.map encM)),(5, .int .i64 x)]) (fun x=>([]:Own)) (fun x=>l.length - x) (0) ?_ ?_ ?_);exact (Nat.zero_le _);(simp [Sub,get,zbn]<;>fail);(try simp only [List.cons_append,List.nil_append]);refine pl_ ?_;intro k hk;(try simp only [List.cons_append,List.nil_append]);(try simp only at hk))
  | refine g_ ?_
  | ((with_reducible refine And.intro ?_ ?_);(exact zeT))
  | (refine DW.cond (by rfl) ?_ ?_<;>(first | exact i0_ | (refine ic_ ?_;intro hb)))
  | ((with_reducible first | refine zaa ?_ ?_ | refine zak ?_ ?_)<;>(intro hb;rw [hb];revert hb;(first | exact i0_ | (refine i_ ?_;intro hb))))
  | refine r_ ?_
  | refine d_ ?_
  | refine k_ ?_
  | ((refine dm_ ?_);(first | (refine v_ (zqJ (m:=l.getD k default) _) ?_ (ha:=by exact zeT))))
  | refine vo_ ?_
  | (refine q_ (zqJ (m:=l.getD k default) _) ?_ (ha:=by exact zeT))
  | refine o_ ?_
  | refine f_ ?_
  | refine vm_ ?_
  | with_reducible intro b)
 all_goals first
 | (((refine ⟨k+1,by (try simp only);omega,by (try simp only);omega,?_,?_⟩);(focus (simp [Sub,get]));exact sub_))
 | ((first | exact fin_ | refine finq_ ?_);done)
 | (trace_state;fail)
end
end
end Go.Proofs.YtgekknefphagbaaGreatDoor
