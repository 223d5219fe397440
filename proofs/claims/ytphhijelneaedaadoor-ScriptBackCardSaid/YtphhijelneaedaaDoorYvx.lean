/- Layer 23's first question. -/
import Derived.Test.YtphhijelneaedaaDoorYhx
import Derived.Test.YtphhijelneaedaaDoorYkx
import Derived.KernelRfl
import Derived.Test.YtphhijelneaedaaDoorYqx
import Derived.Test.YtphhijelneaedaaDoorFzx
import Derived.Test.YtphhijelneaedaaDoorYex
namespace Go.Proofs.YtphhijelneaedaaDoor
open Go.RowKit
set_option linter.unusedSimpArgs false
set_option linter.unusedVariables false
set_option linter.unusedSectionVars false
set_option maxHeartbeats 4000000
set_option maxRecDepth 100000
section
def fitB (ws:List YS):Bool:=(List.range 10).all fun k=>!isK ws k||(List.range (kindsY.getD k default).2.length).all fun i=>if (kindsY.getD k default).2.getD i 0=120 then decide (ws.getD (1+i) []=hexW (unhex (ws.getD (1+i) []))) else (match Lib.atoiAll (ws.getD (1+i) []) with | .ok _=>true | _=>false)
theorem fit_of {ws:List YS} (h:fitB ws=true):FitE ws:=fun k hk hik i hi=>by
 unfold fitB at h
 have h1:=List.all_eq_true.1 h k (List.mem_range.2 hk)
 rw [hik,Bool.not_true,Bool.false_or] at h1
 have h2:=List.all_eq_true.1 h1 i (List.mem_range.2 hi)
 unfold fitY
 split
 · rename_i hx
   rw [if_pos hx] at h2
   exact of_decide_eq_true h2
 · rename_i hx
   rw [if_neg hx] at h2
   split at h2
   · rename_i v hv;exact ⟨v,hv⟩
   · cases h2
def linesB (ls:List YS):Bool:=ls.all fun x=>decide (sw [] x=[])||fitB (sw [] x)
theorem lines_ofB {ls:List YS} (h:linesB ls=true):FitL ls:=fun x hx hne=>by
 have h1:=List.all_eq_true.1 h x hx
 rw [decide_eq_false hne,Bool.false_or] at h1
 exact fit_of h1
theorem byteO_0:byteOf (.int .u8 0)=0:=rfl
theorem byteO_1:byteOf (.int .u8 255)=255:=rfl
theorem isU8_0 (n:Int):isU8 (.int .u8 n)=true:=rfl
def txA:YS:=[116,105,99,107,10,10,97,114,114,105,118,101,32,51,195,169,10,98,121,116,101,115,32,49,32,50,32,48,48,102,102]
def txB:YS:=[116,105,99,107,10,97,114,114,105,118,101,32,48,51]
theorem tA_fit:FitL (splC 10 txA):=lines_ofB (by decide +kernel)
theorem tB_fit:FitL (splC 10 txB):=lines_ofB (by decide +kernel)
theorem tA_is:parseY (splC 10 txA) 0 []=([⟨3,0,0,0,[]⟩,⟨4,0,0,3,[]⟩,⟨1,1,2,0,[0,255]⟩],0,0):=by kernel_rfl
theorem tB_is:parseY (splC 10 txB) 0 []=([],1,33):=by kernel_rfl
theorem tW_is:sw [] [97,195,169,32,98]=[[97],[98]]:=by kernel_rfl
theorem tP_is:printY [⟨3,0,0,0,[]⟩]=[116,105,99,107,10]:=by kernel_rfl
theorem kA_dc (T5:TypeId) (fr:Nat×Nat) (m:Int) (F:Own):True->DC Tryd.prog 26 [.str [116,105,99,107,10,10,97,114,114,105,118,101,32,51,195,169,10,98,121,116,101,115,32,49,32,50,32,48,48,102,102]] ([knP T5 fr,knM m]++F) fun d G=>d = .tup [.sl [.agg [.int .i64 3, .int .i64 0, .int .i64 0, .int .i64 0, .sl []], .agg [.int .i64 4, .int .i64 0, .int .i64 0, .int .i64 3, .sl []], .agg [.int .i64 1, .int .i64 1, .int .i64 2, .int .i64 0, .sl [.int .u8 0, .int .u8 255]]], .int .i64 0, .int .i64 0]/\G=[knP T5 fr,knM m]++F:=fun _=>by
 have h:=parse_dc T5 fr m txA F ⟨by decide,tA_fit⟩
 rw [tA_is] at h;exact h
theorem kB_dc (T5:TypeId) (fr:Nat×Nat) (m:Int) (F:Own):True->DC Tryd.prog 26 [.str [116,105,99,107,10,97,114,114,105,118,101,32,48,51]] ([knP T5 fr,knM m]++F) fun d G=>d = .tup [.sl [], .int .i64 1, .int .i64 33]/\G=[knP T5 fr,knM m]++F:=fun _=>by
 have h:=parse_dc T5 fr m txB F ⟨by decide,tB_fit⟩
 rw [tB_is] at h;exact h
theorem kW_dc (F:Own):True->DC Tryd.prog 45 [.str [97,195,169,32,98]] (([]:Own)++F) fun d G=>d = .sl [.str [97], .str [98]]/\G=[]++F:=fun _=>by
 have h:=words_dc [97,195,169,32,98] F (by decide)
 rw [tW_is] at h;exact h
theorem kP_dc (T5:TypeId) (fr:Nat×Nat) (F:Own):True->DC Tryd.prog 27 [.sl [.agg [.int .i64 3, .int .i64 0, .int .i64 0, .int .i64 0, .sl []]]] ([loose,knP T5 fr]++F) fun d G=>d = .str [116,105,99,107,10]/\G=[loose,knP T5 fr]++F:=fun _=>by
 have h:=print_dc T5 fr [⟨3,0,0,0,[]⟩] F ⟨by decide,fun k=>by
  match k with
  | 0=>exact ⟨⟨⟨by decide,by decide⟩,⟨by decide,by decide⟩,⟨by decide,by decide⟩⟩,by decide⟩
  | k+1=>show EvB default;exact ⟨⟨⟨by decide,by decide⟩,⟨by decide,by decide⟩,⟨by decide,by decide⟩⟩,by decide⟩⟩
 rw [tP_is] at h;exact h
attribute [local irreducible] DW SeqD DV DOp DC DVX
theorem sv_known23_dc {p:Prop} (h:p:=by first | exact sv | rfl | fail):p:=h
section
attribute [local push_cast 2000] List.take_succ_cons List.take_zero byteO_0 byteO_1 isU8_0
theorem known23_dc (T5:TypeId) (fr:Nat×Nat) (m:Int) (F:Own):(True)->DC Tryd.prog 21 [] ([loose,knP T5 fr,knM m]++F) fun d G=>d = .bool true/\G=[loose,knP T5 fr,knM m]++F:=by
 intro hA
 refine DC.bodyS (n_:=69) (show Tryd.prog.funcs[21]? = some Tryd.f21 by kernel_rfl) rfl rfl (by rfl) ?_
 simp only [env0,List.cons_append,List.nil_append]
 have kw:=ksIs [0,1,2,3,5,6]
 have ow:=ownIs []
 repeat' (first
  | refine g_ ?_
  | ((with_reducible refine And.intro ?_ ?_);(exact sv_known23_dc))
  | (refine DW.cond (by rfl) ?_ ?_<;>(first | exact i0_ | (refine ic_ ?_;intro hb)))
  | ((with_reducible refine FVg_cases ?_ ?_)<;>(intro hb;rw [hb];revert hb;(first | exact i0_ | (refine i_ ?_;intro hb))))
  | refine r_ ?_
  | refine k_ ?_
  | (refine q_ (kA_dc _ _ _ _) ?_ (ha:=by exact sv_known23_dc))
  | (refine q_ (kB_dc _ _ _ _) ?_ (ha:=by exact sv_known23_dc))
  | ((first | refine q_ (kW_dc _) ?_ (ha:=by exact sv_known23_dc) | refine q_ (kP_dc _ _ _) ?_ (ha:=by exact sv_known23_dc)))
  | refine o_ ?_
  | refine f_ ?_
  | with_reducible intro b)
 all_goals first
 | ((first | exact fin_ | refine finq_ ?_);done)
 | (trace_state;fail)
end
end
section
abbrev YSv2:=List UInt8
theorem DC.frzP {P:Program} {f:FuncId} {args:List V} {H F:Own} {Q:YS->Prop} (h0:Q [])
  (h:DC P f args H fun d G=>(∃ e:Int,d = .tup [.gs (.slice none 0 0) [], .int .i64 e]/\G=F)\/∃ (v:Value) (x:YS) (e:Int),Q x/\d = .tup [.ar v x.length, .int .i64 e]/\G = .arr 1 v (x.map u8)::F):DC P f args H fun d G=>∃ (x:YS) (e:Int),Q x/\d = .tup [.sl (x.map u8), .int .i64 e]/\G=F :=
 ⟨h.1,fun xs w hs hn hr=>(h.2 xs w hs hn hr).mono fun e0 w' ⟨u,d,H',he,s,ex,r,hd⟩=>by
   rcases hd with ⟨e,hd,hG⟩ | ⟨v,x,e,hq,hd,hG⟩
   · subst hd hG
     exact ⟨u, .tup [.sl (([]:YS).map u8), .int .i64 e],_,he,s,ex,le.tup (Les.cons (le.gs rfl) (Les.cons le.rfl_ Les.nil)) _ _ _ r,[],e,h0,rfl,rfl⟩
   · subst hd hG
     obtain ⟨⟨g1,g2⟩,g3⟩:=Sim.frz (L1:=[]) (l:=x.map u8) (by rw [cells_u8Y];exact s) (by decide) (fun y hy=>by obtain ⟨z,_,rfl⟩:=List.mem_map.1 hy;rfl)
     rw [cells_u8Y] at g2
     have k1:Ext w' (.tail 1 v::F) w' F:=Ext.drop fun x hx=>List.mem_cons_of_mem _ hx
     have r1:R (stable w' F) w' u (.tup [.gs v (x.map u8), .int .i64 e]):=(R.cv g3 (Cv.tupL (CvL.cons (Cv.hit _) (CvL.cons (Cv.rfl _) CvL.nil))) (g2.rel r)).mono k1.cells
     exact ⟨u, .tup [.sl (x.map u8), .int .i64 e],F,he,g1.drop (List.sublist_cons_self _ _),(ex.trans g2).trans k1,le.tup (Les.cons (le.gs rfl) (Les.cons le.rfl_ Les.nil)) _ _ _ r1,x,e,hq,rfl,rfl⟩⟩
attribute [local irreducible] DW SeqD DV DOp DC DVX
theorem size1_dc (n:Int) (F:Own):(True)->DC Tryd.prog 127 [.int .i64 n] (([]:Own)++F) fun d G=>∃ r:Nat,r<=4/\d = .int .i64 r/\G=[]++F:=by
 intro hA
 refine DC.bodyS (n_:=19) (show Tryd.prog.funcs[127]? = some Tryd.f127 by kernel_rfl) rfl rfl (by rfl) ?_
 simp only [env0,List.cons_append,List.nil_append]
 have kw:=ksIs [0,2,3,10,13,16]
 have ow:=ownIs []
 repeat' (first
  | refine g_ ?_
  | ((with_reducible refine And.intro ?_ ?_);(exact sv))
  | (refine DW.cond (by rfl) ?_ ?_<;>(first | exact i0_ | (refine ic_ ?_;intro hb)))
  | ((with_reducible refine FVg_cases ?_ ?_)<;>(intro hb;rw [hb];revert hb;(first | exact i0_ | (refine i_ ?_;intro hb))))
  | refine r_ ?_
  | refine k_ ?_
  | refine o_ ?_
  | refine f_ ?_
  | with_reducible intro b)
 all_goals first
 | (refine ⟨_,_,le.of_eq ?_,⟨0,by decide,rfl,rfl⟩,?_⟩;rfl;(exact sub_);done)
 | (refine ⟨_,_,le.of_eq ?_,⟨1,by decide,rfl,rfl⟩,?_⟩;rfl;(exact sub_);done)
 | (refine ⟨_,_,le.of_eq ?_,⟨2,by decide,rfl,rfl⟩,?_⟩;rfl;(exact sub_);done)
 | (refine ⟨_,_,le.of_eq ?_,⟨3,by decide,rfl,rfl⟩,?_⟩;rfl;(exact sub_);done)
 | (refine ⟨_,_,le.of_eq ?_,⟨4,by decide,rfl,rfl⟩,?_⟩;rfl;(exact sub_);done)
 | (trace_state;fail)
theorem sv_put1_dc {p:Prop} (h:p:=by first | exact sv | (refine ⟨?_,?_,fun _ _=>rfl⟩<;>omega) | fail):p:=h
theorem put1_dc (n:Int) (F:Own):(True)->DC Tryd.prog 102 [.int .i64 n] (([]:Own)++F) fun d G=>∃ (x:YS) (e:Int),x.length<=4/\d = .tup [.sl (x.map u8), .int .i64 e]/\G=[]++F:=by
 intro hA
 refine DC.bodyS (n_:=34) (show Tryd.prog.funcs[102]? = some Tryd.f102 by kernel_rfl) rfl rfl (by rfl) ?_
 simp only [env0,List.cons_append,List.nil_append]
 have kw:=ksIs [0,2,3,4,5,6,7,11,14,26]
 have ow:=ownIs []
 refine DW.tail0 1 ?_
 repeat' (first
  | ((with_reducible refine DW.loopB 0 (X:=Nat×Value×YSv2) (fun x=>x.1<=r/\x.2.2.length=x.1) (fun x=>[(0, .int .i64 n),(4, .int .i64 r),(5, .gs x.2.1 (x.2.2.map u8)),(6, .int .i64 x.1)]) (fun x=>.tail 1 x.2.1::([]:Own)) (fun x=>r - x.1) ((0, .slice none 0 0,[])) ?_ ?_ ?_);exact (⟨Nat.zero_le _,rfl⟩);(simp [Sub,get,keepL]<;>fail);(try simp only [List.cons_append,List.nil_append]);refine pl_ ?_;intro ⟨k,v,x⟩ ⟨hk,hx⟩;(try simp only [List.cons_append,List.nil_append]);(try simp only at hk hx))
  | refine g_ ?_
  | ((with_reducible refine And.intro ?_ ?_);(exact sv_put1_dc))
  | (refine DW.cond (by rfl) ?_ ?_<;>(first | exact i0_ | (refine ic_ ?_;intro hb)))
  | ((with_reducible refine FVg_cases ?_ ?_)<;>(intro hb;rw [hb];revert hb;(first | exact i0_ | (refine i_ ?_;intro hb))))
  | refine r_ ?_
  | refine k_ ?_
  | (refine p_ (size1_dc _ _) ?_ (ha:=by exact sv_put1_dc);rintro d H1 ⟨r,hr,rfl,rfl⟩<;>refine s_ ?_)
  | refine o_ ?_
  | refine f_ ?_
  | with_reducible intro b)
 all_goals first
 | (refine ⟨_,_,le.tup (Les.cons (le.gs rfl) (Les.cons le.rfl_ Les.nil)),⟨x,0,by omega,rfl,rfl⟩,?_⟩;(exact sub_);done)
 | (refine ⟨_,_,le.tup (Les.cons (le.gs List.map_nil.symm) (Les.cons le.rfl_ Les.nil)),⟨[],_,by decide,rfl,rfl⟩,?_⟩;(exact sub_);done)
 | ((rw [u8_byteW]);(generalize hz:byteW _=z0);refine ⟨(k+1,b,x++[z0]),⟨by (try simp only);omega,by simp [hx]⟩,by (try simp only);omega,by simp [Sub,get],?_⟩;((try dsimp only);(exact sub_));done)
 | (trace_state;fail)
end
end Go.Proofs.YtphhijelneaedaaDoor
