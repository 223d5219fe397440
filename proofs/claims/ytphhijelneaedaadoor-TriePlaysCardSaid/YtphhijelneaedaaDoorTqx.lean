/- The trie: what the laws ask of it; the laws' first question. -/
import Derived.Test.YtphhijelneaedaaDoorTjx
import Derived.KernelRfl
namespace Go.Proofs.YtphhijelneaedaaDoor
open Go.RowKit
set_option linter.unusedSimpArgs false
set_option linter.unusedVariables false
set_option linter.unusedSectionVars false
set_option maxHeartbeats 4000000
set_option maxRecDepth 100000
section
theorem newX_dc (F:Own):True->DC Tryd.prog 6 [] (([]:Own)++F) fun d G=>∃ (t:Nat) (s:TS),(TOK s/\s.L=[])/\d = .raw (.pointer (some ⟨t,0,none⟩))/\G=ownT t s++F:=fun h=>(new_dc F h).mono fun d G hd=>by
 obtain ⟨t,s,h1,h2,h3⟩:=hd
 exact ⟨t,s,h2,h1,h3⟩
theorem putX_dc (m:Int) (t:Nat) (s:TS) (L:TL) (f ky:Str) (q:Int) (F:Own):((TOK s/\s.L=L)/\f.length<=1000000/\L.length<=1000000000/\ky.length<=1000000000)->DC Tryd.prog 8 [.raw (.pointer (some ⟨t,0,none⟩)), .str f, .str ky, .int .i64 q] ((knF::knA::knM m::(ownT t s++[]))++F) fun d G=>∃ s':TS,(TOK s'/\s'.L=putL L f ky q)/\d = .tup [.int .i64 (wasL L f ky), .bool (hadL L f ky)]/\G=knF::knA::knM m::(ownT t s'++F):=fun ⟨⟨h,e⟩,h1,h2,h3⟩=>by
 subst e
 exact (put_dc m t s f ky q F ⟨h,h1,h2,h3⟩).mono fun d G hd=>by
  obtain ⟨s',h1,h2,h3,h4⟩:=hd
  exact ⟨s',⟨h1,h2⟩,h3,h4⟩
theorem dropX_dc (m:Int) (t:Nat) (s:TS) (L:TL) (f ky:Str) (F:Own):((TOK s/\s.L=L)/\f.length<=1000000/\L.length<=1000000000)->DC Tryd.prog 10 [.raw (.pointer (some ⟨t,0,none⟩)), .str f, .str ky] ((knF::knA::knM m::(ownT t s++[]))++F) fun d G=>∃ s':TS,(TOK s'/\s'.L=dropA (f,ky) L)/\d = .bool (lookA (f,ky) L).isSome/\G=knF::knA::knM m::(ownT t s'++F):=fun ⟨⟨h,e⟩,h1,h2⟩=>by
 subst e
 exact droptop_dc m t s f ky F ⟨h,h1,h2⟩
theorem tmatchX_dc (m:Int) (t:Nat) (s:TS) (L:TL) (n:Str) (F:Own):((TOK s/\s.L=L)/\n.length<=1000000/\L.length<=1000000000)->DC Tryd.prog 19 [.raw (.pointer (some ⟨t,0,none⟩)), .str n] ((loose::knF::knA::knM m::(ownT t s++[]))++F) fun d G=>d = .sl ((matchL L n).map encHit)/\G=(loose::knF::knA::knM m::(ownT t s++[]))++F:=fun ⟨⟨h,e⟩,h1,h2⟩=>by
 subst e
 exact tmatchT_dc m t s n F ⟨h,h1,h2⟩
theorem lenX_dc (t:Nat) (s:TS) (L:TL) (F:Own):(TOK s/\s.L=L)->DC Tryd.prog 12 [.raw (.pointer (some ⟨t,0,none⟩))] ((ownT t s++[])++F) fun d G=>d = .int .i64 L.length/\G=(ownT t s++[])++F:=fun ⟨_,e⟩=>by
 subst e
 exact tlen_dc t s F trivial
def K1:TL:=[(([35],[107]),1)]
def K2:TL:=[(([35],[107]),1),(([97],[107]),2)]
def K3:TL:=[(([35],[107]),1),(([97],[107]),2),(([97,47,43],[106]),0)]
def K4:TL:=[(([97],[107]),2),(([97,47,43],[106]),0)]
def Q1 (q:Int):TL:=[(([97,47,43],[107]),q)]
def Q2 (q c:Int):TL:=[(([97,47,43],[107]),q),(([97,47,35],[107]),c)]
theorem k3_len:((K3.length:Nat):Int)=3:=rfl
theorem kp1_dc (m:Int) (t:Nat) (s:TS)  (F:Own):(TOK s/\s.L=([]:TL))->DC Tryd.prog 8 [.raw (.pointer (some ⟨t,0,none⟩)), .str [35], .str [107], .int .i64 1] ((knF::knA::knM m::(ownT t s++[]))++F) fun d G=>∃ s':TS,(TOK s'/\s'.L=K1)/\d = .tup [.int .i64 0, .bool false]/\G=knF::knA::knM m::(ownT t s'++F):=fun h=>by
 have:=putX_dc m t s (([]:TL)) [35] [107] 1 F ⟨h,by decide,by first | decide | simp [Q1,Q2],by decide⟩
 obtain ⟨e1,e2,e3⟩:=(show putL (([]:TL)) [35] [107] 1=K1/\wasL (([]:TL)) [35] [107]=0/\hadL (([]:TL)) [35] [107]=false from by decide +kernel)
 rw [e1,e2,e3] at this;exact this
theorem kp2_dc (m:Int) (t:Nat) (s:TS)  (F:Own):(TOK s/\s.L=K1)->DC Tryd.prog 8 [.raw (.pointer (some ⟨t,0,none⟩)), .str [97], .str [107], .int .i64 2] ((knF::knA::knM m::(ownT t s++[]))++F) fun d G=>∃ s':TS,(TOK s'/\s'.L=K2)/\d = .tup [.int .i64 0, .bool false]/\G=knF::knA::knM m::(ownT t s'++F):=fun h=>by
 have:=putX_dc m t s (K1) [97] [107] 2 F ⟨h,by decide,by first | decide | simp [Q1,Q2],by decide⟩
 obtain ⟨e1,e2,e3⟩:=(show putL (K1) [97] [107] 2=K2/\wasL (K1) [97] [107]=0/\hadL (K1) [97] [107]=false from by decide +kernel)
 rw [e1,e2,e3] at this;exact this
theorem kp3_dc (m:Int) (t:Nat) (s:TS)  (F:Own):(TOK s/\s.L=K2)->DC Tryd.prog 8 [.raw (.pointer (some ⟨t,0,none⟩)), .str [97,47,43], .str [106], .int .i64 0] ((knF::knA::knM m::(ownT t s++[]))++F) fun d G=>∃ s':TS,(TOK s'/\s'.L=K3)/\d = .tup [.int .i64 0, .bool false]/\G=knF::knA::knM m::(ownT t s'++F):=fun h=>by
 have:=putX_dc m t s (K2) [97,47,43] [106] 0 F ⟨h,by decide,by first | decide | simp [Q1,Q2],by decide⟩
 obtain ⟨e1,e2,e3⟩:=(show putL (K2) [97,47,43] [106] 0=K3/\wasL (K2) [97,47,43] [106]=0/\hadL (K2) [97,47,43] [106]=false from by decide +kernel)
 rw [e1,e2,e3] at this;exact this
theorem km1_dc (m:Int) (t:Nat) (s:TS)  (F:Own):(TOK s/\s.L=K3)->DC Tryd.prog 19 [.raw (.pointer (some ⟨t,0,none⟩)), .str [97]] ((loose::knF::knA::knM m::(ownT t s++[]))++F) fun d G=>d = .sl [.agg [.str [107], .int .i64 2]]/\G=(loose::knF::knA::knM m::(ownT t s++[]))++F:=fun h=>by
 have:=tmatchX_dc m t s (K3) [97] F ⟨h,by decide,by first | decide | simp [Q1,Q2]⟩
 rw [show matchL (K3) [97]=[([107],2)] from by decide +kernel] at this;exact this
theorem kd1_dc (m:Int) (t:Nat) (s:TS) (F:Own):(TOK s/\s.L=K3)->DC Tryd.prog 10 [.raw (.pointer (some ⟨t,0,none⟩)), .str [35], .str [107]] ((knF::knA::knM m::(ownT t s++[]))++F) fun d G=>∃ s':TS,(TOK s'/\s'.L=K4)/\d = .bool true/\G=knF::knA::knM m::(ownT t s'++F):=fun h=>by
 have:=dropX_dc m t s (K3) [35] [107] F ⟨h,by decide,by decide⟩
 obtain ⟨e1,e2⟩:=(show dropA ([35],[107]) K3=K4/\(lookA ([35],[107]) K3).isSome=true from by decide +kernel)
 rw [e1,e2] at this;exact this
theorem kd2_dc (m:Int) (t:Nat) (s:TS) (F:Own):(TOK s/\s.L=K4)->DC Tryd.prog 10 [.raw (.pointer (some ⟨t,0,none⟩)), .str [35], .str [107]] ((knF::knA::knM m::(ownT t s++[]))++F) fun d G=>∃ s':TS,(TOK s'/\s'.L=K4)/\d = .bool false/\G=knF::knA::knM m::(ownT t s'++F):=fun h=>by
 have:=dropX_dc m t s (K4) [35] [107] F ⟨h,by decide,by decide⟩
 obtain ⟨e1,e2⟩:=(show dropA ([35],[107]) K4=K4/\(lookA ([35],[107]) K4).isSome=false from by decide +kernel)
 rw [e1,e2] at this;exact this
attribute [local irreducible] DW SeqD DV DOp DC DVX ownT K1 K2 K3 K4 Q1 Q2
theorem sv_known7_dc {p:Prop} (h:p:=by first | exact sv | exact ⟨hs,hL⟩ | fail):p:=h
section
attribute [local push_cast 2000] k3_len
theorem known7_dc (m:Int) (F:Own):(True)->DC Tryd.prog 5 [] ([loose,knF,knA,knM m]++F) fun d G=>d = .bool true/\G=[loose,knF,knA,knM m]++F:=by
 intro hA
 refine DC.bodyS (n_:=47) (show Tryd.prog.funcs[5]? = some Tryd.f5 by kernel_rfl) rfl rfl (by rfl) ?_
 simp only [env0,List.append_assoc,List.cons_append,List.nil_append]
 have kw:=ksIs [0,1,3,4,7]
 have ow:=ownIs []
 repeat' (first
  | refine g_ ?_
  | ((with_reducible refine And.intro ?_ ?_);(exact sv_known7_dc))
  | (refine DW.cond (by rfl) ?_ ?_<;>(first | exact i0_ | (refine ic_ ?_;intro hb)))
  | ((with_reducible refine FVg_cases ?_ ?_)<;>(intro hb;rw [hb];revert hb;(first | exact i0_ | (refine i_ ?_;intro hb))))
  | refine r_ ?_
  | refine k_ ?_
  | (refine p_ (newX_dc _) ?_ (ha:=by exact sv_known7_dc);rintro d H1 ⟨t,s1,⟨hs,hL⟩,rfl,rfl⟩<;>refine s_ ?_)
  | (refine p_ (kp1_dc _ _ _ _) ?_ (ha:=by exact sv_known7_dc);rintro d H1 ⟨s2,⟨hs,hL⟩,rfl,rfl⟩<;>refine s_ ?_)
  | (refine p_ (kp2_dc _ _ _ _) ?_ (ha:=by exact sv_known7_dc);rintro d H1 ⟨s2,⟨hs,hL⟩,rfl,rfl⟩<;>refine s_ ?_)
  | (refine p_ (kp3_dc _ _ _ _) ?_ (ha:=by exact sv_known7_dc);rintro d H1 ⟨s2,⟨hs,hL⟩,rfl,rfl⟩<;>refine s_ ?_)
  | ((first | refine q_ (km1_dc _ _ _ _) ?_ (ha:=by exact sv_known7_dc) | refine q_ (lenX_dc _ _ _ _) ?_ (ha:=by exact sv_known7_dc)))
  | (refine p_ (kd1_dc _ _ _ _) ?_ (ha:=by exact sv_known7_dc);rintro d H1 ⟨s2,⟨hs,hL⟩,rfl,rfl⟩<;>refine s_ ?_)
  | (refine p_ (kd2_dc _ _ _ _) ?_ (ha:=by exact sv_known7_dc);rintro d H1 ⟨s2,⟨hs,hL⟩,rfl,rfl⟩<;>refine s_ ?_)
  | refine o_ ?_
  | refine f_ ?_
  | with_reducible intro b)
 all_goals first
 | ((first | exact fin_ | refine finq_ ?_);done)
 | (trace_state;fail)
end
end
end Go.Proofs.YtphhijelneaedaaDoor
