/- The bytes of a packet, exactly. -/
import Derived.Test.YtgekknefphagbaaGreatDoorWdx
import Derived.Test.YtgekknefphagbaaGreatDoorYox
import Derived.KernelRfl
import Derived.Test.YtgekknefphagbaaGreatDoorPv1x
import Derived.Test.YtgekknefphagbaaGreatDoorSox
import Derived.Test.YtgekknefphagbaaGreatDoorMgx
import Derived.Test.YtgekknefphagbaaGreatDoorJax
namespace Go.Proofs.YtgekknefphagbaaGreatDoor
open Go.RowKit
set_option linter.unusedSimpArgs false
set_option linter.unusedVariables false
set_option linter.unusedSectionVars false
set_option maxHeartbeats 4000000
set_option maxRecDepth 100000
section
def flagsM (p:Pk):Int:=if p.kind=6\/p.kind=8\/p.kind=10 then 2 else if p.kind=3 then (if p.dup=true then 8 else 0)+2 * p.qos+(if p.retain=true then 1 else 0) else 0
def headM (p:Pk):UInt8:=byteW (16 * p.kind+flagsM p)
noncomputable def putM (p:Pk):YS:=if rightM p=true then headM p::(varM (bodyM p).length++bodyM p) else []
theorem right_len {p:Pk} (h:rightM p=true):(bodyM p).length<=8192:=by
 unfold rightM at h
 simp only [Bool.and_eq_true,decide_eq_true_eq] at h
 exact h.2
theorem DC.frzQ {P:Program} {f:FuncId} {args:List V} {H F:Own} {Q:YS->Int->Prop}
  (h:DC P f args H fun d G=>(∃ e:Int,Q [] e/\d = .tup [.gs (.slice none 0 0) [], .int .i64 e]/\G=F)\/∃ (v:Value) (x:YS) (e:Int),Q x e/\d = .tup [.ar v x.length, .int .i64 e]/\G = .arr 1 v (x.map u8)::F):DC P f args H fun d G=>∃ (x:YS) (e:Int),Q x e/\d = .tup [.sl (x.map u8), .int .i64 e]/\G=F :=
 ⟨h.1,fun xs w hs hn hr=>(h.2 xs w hs hn hr).mono fun e0 w' ⟨u,d,H',he,s,ex,r,hd⟩=>by
   rcases hd with ⟨e,hq,hd,hG⟩ | ⟨v,x,e,hq,hd,hG⟩
   · subst hd hG
     exact ⟨u, .tup [.sl (([]:YS).map u8), .int .i64 e],_,he,s,ex,le.tup (Les.cons (le.gs rfl) (Les.cons le.rfl_ Les.nil)) _ _ _ r,[],e,hq,rfl,rfl⟩
   · subst hd hG
     obtain ⟨⟨g1,g2⟩,g3⟩:=Sim.frz (L1:=[]) (l:=x.map u8) (by rw [cells_u8Y];exact s) (by decide) (fun y hy=>by obtain ⟨z,_,rfl⟩:=List.mem_map.1 hy;rfl)
     rw [cells_u8Y] at g2
     have k1:Ext w' (.tail 1 v::F) w' F:=Ext.drop fun x hx=>List.mem_cons_of_mem _ hx
     have r1:R (stable w' F) w' u (.tup [.gs v (x.map u8), .int .i64 e]):=(R.cv g3 (Cv.tupL (CvL.cons (Cv.hit _) (CvL.cons (Cv.rfl _) CvL.nil))) (g2.rel r)).mono k1.cells
     exact ⟨u, .tup [.sl (x.map u8), .int .i64 e],F,he,g1.drop (List.sublist_cons_self _ _),(ex.trans g2).trans k1,le.tup (Les.cons (le.gs rfl) (Les.cons le.rfl_ Les.nil)) _ _ _ r1,x,e,hq,rfl,rfl⟩⟩
attribute [local irreducible] DW SeqD DV DOp DC DVX varM rightM bodyM
section
attribute [local push_cast 2000] cells_u8Y
end
end
section
theorem eqSelfW (p:List UInt8):(p==p)=true:=by simp
theorem eqSelfI (p:Int):(p==p)=true:=by simp
theorem neSelfI (p:Int):(p != p)=false:=by simp
theorem neSelfW (p:List UInt8):(p != p)=false:=by simp
theorem numM_t {p:Pk} (h:numM p=true):(p.kind=3/\0<p.qos)\/(p.kind≠3/\4<=p.kind/\p.kind<=11):=by
 unfold numM at h;split at h
 · exact .inl ⟨by assumption,by simpa using h⟩
 · exact .inr ⟨by assumption,by simpa using h⟩
theorem numM_f {p:Pk} (h:numM p=false):(p.kind=3/\¬ 0<p.qos)\/(p.kind≠3/\(p.kind<4\/11<p.kind)):=by
 unfold numM at h;split at h
 · exact .inl ⟨by assumption,by simpa using h⟩
 · refine .inr ⟨by assumption,?_⟩
   simp only [decide_eq_false_iff_not] at h
   omega
attribute [local irreducible] DW SeqD DV DOp DC DVX chkB
theorem win_dc (v a b:Int) (F:Own):(True)->DC Tryz.prog 196 [.int .i64 v, .int .i64 a, .int .i64 b] (([]:Own)++F) fun d G=>d = .bool (inM v a b)/\G=[]++F:=by
 intro hA
 refine DC.bodyS (n_:=15) (show Tryz.prog.funcs[196]? = some Tryz.f196 by kernel_rfl) rfl rfl (by rfl) ?_
 simp only [env0,List.cons_append,List.nil_append]
 have kw:=ksIs [0,1,2,6]
 have ow:=ownIs []
 repeat' (first
  | refine g_ ?_
  | ((with_reducible refine And.intro ?_ ?_);(exact sv))
  | (refine DW.cond (by rfl) ?_ ?_<;>(first | exact i0_ | (refine ic_ ?_;intro hb)))
  | ((with_reducible refine FVg_cases ?_ ?_)<;>(intro hb;rw [hb];revert hb;(first | exact i0_ | (refine i_ ?_;intro hb))))
  | refine r_ ?_
  | refine k_ ?_
  | refine o_ ?_
  | refine f_ ?_
  | with_reducible intro b)
 all_goals first
 | ((refine ⟨_,_,le.of_eq ?_,⟨rfl,rfl⟩,SubP.refl⟩);congr 1;rw [Bool.eq_iff_iff];(simp [inM]<;>omega);done)
 | (trace_state;fail)
section
attribute [local push_cast 2000] bytes_are bytes_back
theorem wtext_dc (l:YS) (F:Own):(l.length<=1000000000)->DC Tryz.prog 249 [.str l] ([knF,knA]++F) fun d G=>d = .bool (textM l)/\G=[knF,knA]++F:=by
 intro hA
 have hl:=hA
 refine DC.bodyS (n_:=12) (show Tryz.prog.funcs[249]? = some Tryz.f249 by kernel_rfl) rfl rfl (by rfl) ?_
 simp only [env0,List.cons_append,List.nil_append]
 have kw:=ksIs [0,2]
 have ow:=ownIs []
 repeat' (first
  | refine g_ ?_
  | ((with_reducible refine And.intro ?_ ?_);(exact sv))
  | (refine DW.cond (by rfl) ?_ ?_<;>(first | exact i0_ | (refine ic_ ?_;intro hb)))
  | ((with_reducible refine FVg_cases ?_ ?_)<;>(intro hb;rw [hb];revert hb;(first | exact i0_ | (refine i_ ?_;intro hb))))
  | refine r_ ?_
  | refine k_ ?_
  | (refine p_ (chk_dc _ _) ?_;rintro d H1 ⟨i1,rfl,hi1,rfl⟩<;>refine s_ ?_)
  | refine o_ ?_
  | refine f_ ?_
  | with_reducible intro b)
 all_goals first
 | ((refine ⟨_,_,le.of_eq ?_,⟨rfl,rfl⟩,?_⟩);rotate_left;(exact sub_);congr 1;unfold textM;(try rw [<-hi1]);rw [Bool.eq_iff_iff];(simp_all<;>omega);done)
 | (trace_state;fail)
end
theorem wflag_dc (b:Bool) (n:Int) (F:Own):(True)->DC Tryz.prog 201 [.bool b, .int .i64 n] (([]:Own)++F) fun d G=>d = .int .i64 (if b=true then n else 0)/\G=[]++F:=by
 intro hA
 refine DC.bodyS (n_:=7) (show Tryz.prog.funcs[201]? = some Tryz.f201 by kernel_rfl) rfl rfl (by rfl) ?_
 simp only [env0,List.cons_append,List.nil_append]
 have kw:=ksIs [0,1,4,5]
 have ow:=ownIs []
 repeat' (first
  | refine g_ ?_
  | ((with_reducible refine And.intro ?_ ?_);(exact sv))
  | (refine DW.cond (by rfl) ?_ ?_<;>(first | exact i0_ | (refine ic_ ?_;intro hb)))
  | ((with_reducible refine FVg_cases ?_ ?_)<;>(intro hb;rw [hb];revert hb;(first | exact i0_ | (refine i_ ?_;intro hb))))
  | refine r_ ?_
  | refine k_ ?_
  | refine o_ ?_
  | refine f_ ?_
  | with_reducible intro b)
 all_goals first
 | ((simp only [hb,↓reduceIte,Bool.false_eq_true];(first | exact fin_ | refine finq_ ?_);done))
 | (trace_state;fail)
theorem sv_twoW_dc {p:Prop} (h:p:=by first | exact sv | (simp [u8,V.one,V.n];omega) | (simp [u8,V.one,V.n]<;>fail) | fail):p:=h
section
attribute [local push_cast 2000] cells_u8Y
theorem twoW_dc (v:Value) (n:Nat) (l:YS) (z:Int) (F:Own):(n=l.length/\l.length<=2000000000)->DC Tryz.prog 204 [.ar v n, .int .i64 z] (.arr 1 v (l.map u8)::([]:Own)++F) fun d G=>∃ v':Value,d = .ar v' (l++twoM z).length/\G = .arr 1 v' ((l++twoM z).map u8)::F:=by
 intro hA
 obtain ⟨hn,hl⟩:=hA
 refine DC.bodyS (n_:=13) (show Tryz.prog.funcs[204]? = some Tryz.f204 by kernel_rfl) rfl rfl (by rfl) ?_
 simp only [env0,List.cons_append,List.nil_append]
 have kw:=ksIs [0,1,4]
 have ow:=ownIs []
 repeat' (first
  | refine g_ ?_
  | ((with_reducible refine And.intro ?_ ?_);(exact sv_twoW_dc))
  | (refine DW.cond (by rfl) ?_ ?_<;>(first | exact i0_ | (refine ic_ ?_;intro hb)))
  | ((with_reducible refine FVg_cases ?_ ?_)<;>(intro hb;rw [hb];revert hb;(first | exact i0_ | (refine i_ ?_;intro hb))))
  | refine r_ ?_
  | refine k_ ?_
  | refine o_ ?_
  | refine f_ ?_
  | with_reducible intro b)
 all_goals first
 | ((rw [<-two_app]);refine ⟨_,_,le.of_eq ?_,⟨b,rfl,rfl⟩,?_⟩;(rw [hn];simp [twoM_len]);(exact sub_);done)
 | (trace_state;fail)
end
section
attribute [local push_cast 2000] cells_u8Y cells_cons cells_nil
theorem twoNW_dc (z:Int) (F:Own):(True)->DC Tryz.prog 204 [.gs (.slice none 0 0) [], .int .i64 z] (([]:Own)++F) fun d G=>∃ v':Value,d = .ar v' (twoM z).length/\G = .arr 1 v' ((twoM z).map u8)::F:=by
 intro hA
 refine DC.bodyS (n_:=13) (show Tryz.prog.funcs[204]? = some Tryz.f204 by kernel_rfl) rfl rfl (by rfl) ?_
 simp only [env0,List.cons_append,List.nil_append]
 have kw:=ksIs [0,1,4]
 have ow:=ownIs []
 repeat' (first
  | refine g_ ?_
  | ((with_reducible refine And.intro ?_ ?_);(exact sv_twoNW_dc))
  | (refine DW.cond (by rfl) ?_ ?_<;>(first | exact i0_ | (refine ic_ ?_;intro hb)))
  | ((with_reducible refine FVg_cases ?_ ?_)<;>(intro hb;rw [hb];revert hb;(first | exact i0_ | (refine i_ ?_;intro hb))))
  | refine r_ ?_
  | refine k_ ?_
  | ((first | (refine DOp.app0a_ [12] rfl rfl rfl rfl (by intro h;cases h) ?_))<;>(refine s_ ?_))
  | refine o_ ?_
  | refine f_ ?_
  | with_reducible intro b)
 all_goals first
 | ((have e:=two_app [] z);(simp only [List.map_nil,List.nil_append] at e ⊢);(rw [<-e]);refine ⟨_,_,le.of_eq ?_,⟨b,rfl,rfl⟩,?_⟩;rfl;(exact sub_);done)
 | (trace_state;fail)
end
section
attribute [local push_cast 2000] cells_u8Y twoM_len
end
theorem sv_lumpNW_dc {p:Prop} (h:p:=by first | exact sv | (simp [u8,V.one,V.n];omega) | (simp [u8,V.one,V.n]<;>fail) | fail):p:=h
section
attribute [local push_cast 2000] cells_u8Y twoM_len
theorem lumpNW_dc (t:YS) (F:Own):(t.length<=1000000000)->DC Tryz.prog 202 [.gs (.slice none 0 0) [], .str t] (([]:Own)++F) fun d G=>∃ v':Value,d = .ar v' (lumpM t).length/\G = .arr 1 v' ((lumpM t).map u8)::F:=by
 intro hA
 have ht:=hA
 refine DC.bodyS (n_:=11) (show Tryz.prog.funcs[202]? = some Tryz.f202 by kernel_rfl) rfl rfl (by rfl) ?_
 simp only [env0,List.cons_append,List.nil_append]
 have kw:=ksIs [0,1,4]
 have ow:=ownIs []
 repeat' (first
  | refine g_ ?_
  | ((with_reducible refine And.intro ?_ ?_);(exact sv_lumpNW_dc))
  | (refine DW.cond (by rfl) ?_ ?_<;>(first | exact i0_ | (refine ic_ ?_;intro hb)))
  | ((with_reducible refine FVg_cases ?_ ?_)<;>(intro hb;rw [hb];revert hb;(first | exact i0_ | (refine i_ ?_;intro hb))))
  | refine r_ ?_
  | refine k_ ?_
  | (refine p_ (twoNW_dc _ _) ?_ (ha:=by exact sv_lumpNW_dc);rintro d H1 ⟨v1,rfl,rfl⟩<;>refine s_ ?_)
  | refine o_ ?_
  | refine f_ ?_
  | with_reducible intro b)
 all_goals first
 | ((rw [lumpN_app]);refine ⟨_,_,le.of_eq ?_,⟨b,rfl,rfl⟩,?_⟩;(rw [lumpM_len]);(exact sub_);done)
 | (trace_state;fail)
end
theorem wnum_dc (p:Pk) (F:Own):(True)->DC Tryz.prog 203 [.agg [.int .i64 p.kind, .bool p.dup, .bool p.retain, .int .i64 p.qos, .int .i64 p.id, .str p.topic, .sl (p.payload.map u8), .int .i64 p.level, .str p.client, .bool p.clean, .int .i64 p.keep, .bool p.hasWill, .str p.wtopic, .sl (p.wpay.map u8), .int .i64 p.wqos, .bool p.wretain, .bool p.hasUser, .bool p.hasPass, .str p.user, .sl (p.pass.map u8), .bool p.present, .int .i64 p.code, .sl (p.subs.map encU), .sl (p.codes.map (V.int .i64))]] (([]:Own)++F) fun d G=>d = .bool (numM p)/\G=[]++F:=by
 intro hA
 refine DC.bodyS (n_:=19) (show Tryz.prog.funcs[203]? = some Tryz.f203 by kernel_rfl) rfl rfl (by rfl) ?_
 simp only [env0,List.cons_append,List.nil_append]
 have kw:=ksIs [0,1,2,4,5,10]
 have ow:=ownIs []
 repeat' (first
  | refine g_ ?_
  | ((with_reducible refine And.intro ?_ ?_);(exact sv))
  | (refine DW.cond (by rfl) ?_ ?_<;>(first | exact i0_ | (refine ic_ ?_;intro hb)))
  | ((with_reducible refine FVg_cases ?_ ?_)<;>(intro hb;rw [hb];revert hb;(first | exact i0_ | (refine i_ ?_;intro hb))))
  | refine r_ ?_
  | refine k_ ?_
  | refine o_ ?_
  | refine f_ ?_
  | with_reducible intro b)
 all_goals first
 | ((refine ⟨_,_,le.of_eq ?_,⟨rfl,rfl⟩,?_⟩);rotate_left;(exact sub_);congr 1;unfold numM;(simp_all<;>omega);done)
 | ((refine ⟨_,_,le.of_eq ?_,⟨rfl,rfl⟩,?_⟩);rotate_left;(exact sub_);congr 1;unfold numM;rw [Bool.eq_iff_iff];(simp_all<;>omega);done)
 | (trace_state;fail)
section
attribute [local push_cast 2000] bytes_are bytes_back eqSelfW eqSelfI neSelfI neSelfW
theorem beqS_dc (l:YS) (F:Own):(True)->DC Tryz.prog 244 [.sl (l.map u8), .sl (l.map u8)] (([]:Own)++F) fun d G=>d = .bool true/\G=[]++F:=by
 intro hA
 refine DC.bodyS (n_:=10) (show Tryz.prog.funcs[244]? = some Tryz.f244 by kernel_rfl) rfl rfl (by rfl) ?_
 simp only [env0,List.cons_append,List.nil_append]
 have kw:=ksIs [0,1,4]
 have ow:=ownIs []
 repeat' (first
  | refine g_ ?_
  | ((with_reducible refine And.intro ?_ ?_);(exact sv))
  | (refine DW.cond (by rfl) ?_ ?_<;>(first | exact i0_ | (refine ic_ ?_;intro hb)))
  | ((with_reducible refine FVg_cases ?_ ?_)<;>(intro hb;rw [hb];revert hb;(first | exact i0_ | (refine i_ ?_;intro hb))))
  | refine r_ ?_
  | refine k_ ?_
  | refine o_ ?_
  | refine f_ ?_
  | with_reducible intro b)
 (first | exact fin_ | refine finq_ ?_)
 all_goals rfl
end
section
attribute [local push_cast 2000] bytes_are bytes_back eqSelfW eqSelfI neSelfI neSelfW
theorem eqsI_dc (l:List Int) (F:Own):(l.length<=1000000)->DC Tryz.prog 248 [.sl (l.map (V.int .i64)), .sl (l.map (V.int .i64))] (([]:Own)++F) fun d G=>d = .bool true/\G=[]++F:=by
 intro hA
 have hl:=hA
 refine DC.bodyS (n_:=26) (show Tryz.prog.funcs[248]? = some Tryz.f248 by kernel_rfl) rfl rfl (by rfl) ?_
 simp only [env0,List.cons_append,List.nil_append]
 have kw:=ksIs [0,1,4,5,10,12,13,14,24]
 have ow:=ownIs []
 have dw6:=drIs 6 [] [3,7]
 repeat' (first
  | ((with_reducible refine DW.loopB 0 (X:=Nat) (fun x=>x<=l.length) (fun x=>[(0, .sl (l.map (V.int .i64))),(1, .sl (l.map (V.int .i64))),(12, .int .i64 l.length),(13, .int .i64 x)]) (fun x=>([]:Own)) (fun x=>l.length - x) (0) ?_ ?_ ?_);exact (Nat.zero_le _);(simp [Sub,get,keepL]<;>fail);(try simp only [List.cons_append,List.nil_append]);refine pl_ ?_;intro k hk;(try simp only [List.cons_append,List.nil_append]);(try simp only at hk))
  | refine g_ ?_
  | ((with_reducible refine And.intro ?_ ?_);(exact sv))
  | (refine DW.cond (by rfl) ?_ ?_<;>(first | exact i0_ | (refine ic_ ?_;intro hb)))
  | ((with_reducible first | refine FVg_cases ?_ ?_ | refine FDg_cases ?_ ?_)<;>(intro hb;rw [hb];revert hb;(first | exact i0_ | (refine i_ ?_;intro hb))))
  | refine r_ ?_
  | refine d_ ?_
  | refine k_ ?_
  | refine vo_ ?_
  | refine o_ ?_
  | refine f_ ?_
  | refine vm_ ?_
  | with_reducible intro b)
 all_goals first
 | ((first | exact fin_ | refine finq_ ?_);done)
 | (refine ⟨k+1,?_,?_,?_,?_⟩;(((try simp only);omega));(((try simp only);omega));(simp [Sub,get]<;>(fail));(try dsimp only);(exact sub_);done)
 | (trace_state;fail)
end
section
attribute [local push_cast 2000] bytes_are bytes_back eqSelfW eqSelfI neSelfI neSelfW encU
theorem eqsU_dc (l:List (YS×Int)) (F:Own):(l.length<=1000000)->DC Tryz.prog 247 [.sl (l.map encU), .sl (l.map encU)] (([]:Own)++F) fun d G=>d = .bool true/\G=[]++F:=by
 intro hA
 have hl:=hA
 refine DC.bodyS (n_:=26) (show Tryz.prog.funcs[247]? = some Tryz.f247 by kernel_rfl) rfl rfl (by rfl) ?_
 simp only [env0,List.cons_append,List.nil_append]
 have kw:=ksIs [0,1,4,5,10,12,13,14,24]
 have ow:=ownIs []
 have dw6:=drIs 6 [] [3,7]
 repeat' (first
  | ((with_reducible refine DW.loopB 0 (X:=Nat) (fun x=>x<=l.length) (fun x=>[(0, .sl (l.map encU)),(1, .sl (l.map encU)),(12, .int .i64 l.length),(13, .int .i64 x)]) (fun x=>([]:Own)) (fun x=>l.length - x) (0) ?_ ?_ ?_);exact (Nat.zero_le _);(simp [Sub,get,keepL]<;>fail);(try simp only [List.cons_append,List.nil_append]);refine pl_ ?_;intro k hk;(try simp only [List.cons_append,List.nil_append]);(try simp only at hk))
  | refine g_ ?_
  | ((with_reducible refine And.intro ?_ ?_);(exact sv))
  | (refine DW.cond (by rfl) ?_ ?_<;>(first | exact i0_ | (refine ic_ ?_;intro hb)))
  | ((with_reducible first | refine FVg_cases ?_ ?_ | refine FDg_cases ?_ ?_)<;>(intro hb;rw [hb];revert hb;(first | exact i0_ | (refine i_ ?_;intro hb))))
  | refine r_ ?_
  | refine d_ ?_
  | refine k_ ?_
  | refine vo_ ?_
  | refine o_ ?_
  | refine f_ ?_
  | refine vm_ ?_
  | with_reducible intro b)
 all_goals first
 | ((first | exact fin_ | refine finq_ ?_);done)
 | (refine ⟨k+1,?_,?_,?_,?_⟩;(((try simp only);omega));(((try simp only);omega));(simp [Sub,get]<;>(fail));(try dsimp only);(exact sub_);done)
 | (trace_state;fail)
end
section
attribute [local push_cast 2000] bytes_are bytes_back eqSelfW eqSelfI neSelfI neSelfW
theorem wwills_dc (a1 a2:YS) (a3:Int) (a4:Bool) (F:Own):(True)->DC Tryz.prog 246 [.agg [.str a1, .sl (a2.map u8), .int .i64 a3, .bool a4], .agg [.str a1, .sl (a2.map u8), .int .i64 a3, .bool a4]] (([]:Own)++F) fun d G=>d = .bool true/\G=[]++F:=by
 intro hA
 refine DC.bodyS (n_:=31) (show Tryz.prog.funcs[246]? = some Tryz.f246 by kernel_rfl) rfl rfl (by rfl) ?_
 simp only [env0,List.cons_append,List.nil_append]
 have kw:=ksIs [0,1,2,3,4]
 have ow:=ownIs []
 repeat' (first
  | refine g_ ?_
  | ((with_reducible refine And.intro ?_ ?_);(exact sv))
  | (refine DW.cond (by rfl) ?_ ?_<;>(first | exact i0_ | (refine ic_ ?_;intro hb)))
  | ((with_reducible refine FVg_cases ?_ ?_)<;>(intro hb;rw [hb];revert hb;(first | exact i0_ | (refine i_ ?_;intro hb))))
  | refine r_ ?_
  | refine k_ ?_
  | (refine q_ (beqS_dc _ _) ?_)
  | refine o_ ?_
  | refine f_ ?_
  | with_reducible intro b)
 (first | exact fin_ | refine finq_ ?_)
 all_goals rfl
end
section
attribute [local push_cast 2000] List.append_eq List.cons_append List.nil_append bytes_are bytes_back eqSelfW eqSelfI neSelfI neSelfW
theorem wgreets_dc (p:Pk) (F:Own):(True)->DC Tryz.prog 245 [.agg [.int .i64 p.kind, .bool p.dup, .bool p.retain, .int .i64 p.qos, .int .i64 p.id, .str p.topic, .sl (p.payload.map u8), .int .i64 p.level, .str p.client, .bool p.clean, .int .i64 p.keep, .bool p.hasWill, .str p.wtopic, .sl (p.wpay.map u8), .int .i64 p.wqos, .bool p.wretain, .bool p.hasUser, .bool p.hasPass, .str p.user, .sl (p.pass.map u8), .bool p.present, .int .i64 p.code, .sl (p.subs.map encU), .sl (p.codes.map (V.int .i64))], .agg [.int .i64 p.kind, .bool p.dup, .bool p.retain, .int .i64 p.qos, .int .i64 p.id, .str p.topic, .sl (p.payload.map u8), .int .i64 p.level, .str p.client, .bool p.clean, .int .i64 p.keep, .bool p.hasWill, .str p.wtopic, .sl (p.wpay.map u8), .int .i64 p.wqos, .bool p.wretain, .bool p.hasUser, .bool p.hasPass, .str p.user, .sl (p.pass.map u8), .bool p.present, .int .i64 p.code, .sl (p.subs.map encU), .sl (p.codes.map (V.int .i64))]] (([]:Own)++F) fun d G=>d = .bool true/\G=[]++F:=by
 intro hA
 refine DC.bodyS (n_:=80) (show Tryz.prog.funcs[245]? = some Tryz.f245 by kernel_rfl) rfl rfl (by rfl) ?_
 simp only [env0,List.cons_append,List.nil_append]
 have kw:=ksIs [0,1,2,3,4]
 have ow:=ownIs []
 repeat' (first
  | refine g_ ?_
  | ((with_reducible refine And.intro ?_ ?_);(exact sv))
  | (refine DW.cond (by rfl) ?_ ?_<;>(first | exact i0_ | (refine ic_ ?_;intro hb)))
  | ((with_reducible refine FVg_cases ?_ ?_)<;>(intro hb;rw [hb];revert hb;(first | exact i0_ | (refine i_ ?_;intro hb))))
  | refine r_ ?_
  | refine k_ ?_
  | (refine q_ (beqS_dc _ _) ?_)
  | refine o_ ?_
  | refine f_ ?_
  | with_reducible intro b)
 (first | exact fin_ | refine finq_ ?_)
 all_goals rfl
end
section
attribute [local push_cast 2000] List.append_eq List.cons_append List.nil_append bytes_are bytes_back eqSelfW eqSelfI neSelfI neSelfW
theorem wsame_dc (p:Pk) (F:Own):(PkN p)->DC Tryz.prog 197 [.agg [.int .i64 p.kind, .bool p.dup, .bool p.retain, .int .i64 p.qos, .int .i64 p.id, .str p.topic, .sl (p.payload.map u8), .int .i64 p.level, .str p.client, .bool p.clean, .int .i64 p.keep, .bool p.hasWill, .str p.wtopic, .sl (p.wpay.map u8), .int .i64 p.wqos, .bool p.wretain, .bool p.hasUser, .bool p.hasPass, .str p.user, .sl (p.pass.map u8), .bool p.present, .int .i64 p.code, .sl (p.subs.map encU), .sl (p.codes.map (V.int .i64))], .agg [.int .i64 p.kind, .bool p.dup, .bool p.retain, .int .i64 p.qos, .int .i64 p.id, .str p.topic, .sl (p.payload.map u8), .int .i64 p.level, .str p.client, .bool p.clean, .int .i64 p.keep, .bool p.hasWill, .str p.wtopic, .sl (p.wpay.map u8), .int .i64 p.wqos, .bool p.wretain, .bool p.hasUser, .bool p.hasPass, .str p.user, .sl (p.pass.map u8), .bool p.present, .int .i64 p.code, .sl (p.subs.map encU), .sl (p.codes.map (V.int .i64))]] (([]:Own)++F) fun d G=>d = .bool true/\G=[]++F:=by
 intro hA
 have hp:=hA
 refine DC.bodyS (n_:=78) (show Tryz.prog.funcs[197]? = some Tryz.f197 by kernel_rfl) rfl rfl (by rfl) ?_
 simp only [env0,List.cons_append,List.nil_append]
 have kw:=ksIs [0,1,2,3,4]
 have ow:=ownIs []
 have s1:=hp.subs;have s2:=hp.codes
 repeat' (first
  | refine g_ ?_
  | ((with_reducible refine And.intro ?_ ?_);(exact sv))
  | (refine DW.cond (by rfl) ?_ ?_<;>(first | exact i0_ | (refine ic_ ?_;intro hb)))
  | ((with_reducible refine FVg_cases ?_ ?_)<;>(intro hb;rw [hb];revert hb;(first | exact i0_ | (refine i_ ?_;intro hb))))
  | refine r_ ?_
  | refine k_ ?_
  | (refine q_ (beqS_dc _ _) ?_)
  | (refine q_ (wgreets_dc _ _) ?_)
  | (refine q_ (wwills_dc _ _ _ _ _) ?_)
  | (refine q_ (eqsU_dc _ _) ?_)
  | (refine q_ (eqsI_dc _ _) ?_)
  | refine o_ ?_
  | refine f_ ?_
  | with_reducible intro b)
 (first | exact fin_ | refine finq_ ?_)
 all_goals rfl
end
theorem s_wbare_dc {P Q:Prop} (q:Q) (h:Hid Q->P:=by (intro q;simp (maxSteps:=1000000) (disch:=omega) only [push_cast,↓reduceIte,reduceCtorEq,Nat.reduceAdd,Nat.reduceMul,Nat.reduceLT,Nat.reduceLeDiff,Nat.reduceEqDiff,Nat.reduceSub,Int.reduceToNat,Int.reduceLT,Int.reduceLE,Int.reduceAdd,Int.reduceSub,Int.reduceMul,Int.reduceNeg,Nat.reduceBEq,Int.reduceBEq,Int.reduceBNe,Nat.reduceBNe,Int.reduceEq,hnum];exact q.1)):P:=h ⟨q⟩
theorem wbare_dc (p:Pk) (F:Own):(True)->DC Tryz.prog 198 [.agg [.int .i64 p.kind, .bool p.dup, .bool p.retain, .int .i64 p.qos, .int .i64 p.id, .str p.topic, .sl (p.payload.map u8), .int .i64 p.level, .str p.client, .bool p.clean, .int .i64 p.keep, .bool p.hasWill, .str p.wtopic, .sl (p.wpay.map u8), .int .i64 p.wqos, .bool p.wretain, .bool p.hasUser, .bool p.hasPass, .str p.user, .sl (p.pass.map u8), .bool p.present, .int .i64 p.code, .sl (p.subs.map encU), .sl (p.codes.map (V.int .i64))]] (([]:Own)++F) fun d G=>d = .agg [.int .i64 (onlyM p).kind, .bool (onlyM p).dup, .bool (onlyM p).retain, .int .i64 (onlyM p).qos, .int .i64 (onlyM p).id, .str (onlyM p).topic, .sl ((onlyM p).payload.map u8), .int .i64 (onlyM p).level, .str (onlyM p).client, .bool (onlyM p).clean, .int .i64 (onlyM p).keep, .bool (onlyM p).hasWill, .str (onlyM p).wtopic, .sl ((onlyM p).wpay.map u8), .int .i64 (onlyM p).wqos, .bool (onlyM p).wretain, .bool (onlyM p).hasUser, .bool (onlyM p).hasPass, .str (onlyM p).user, .sl ((onlyM p).pass.map u8), .bool (onlyM p).present, .int .i64 (onlyM p).code, .sl ((onlyM p).subs.map encU), .sl ((onlyM p).codes.map (V.int .i64))]/\G=[]++F:=by
 intro hA
 refine DC.bodyS (n_:=94) (show Tryz.prog.funcs[198]? = some Tryz.f198 by kernel_rfl) rfl rfl (by rfl) ?_
 simp only [env0,List.cons_append,List.nil_append]
 have kw:=ksIs [0,1,2,3,8,13,14,38,43,48,52,60,82,88]
 have ow:=ownIs []
 have dw6:=drIs 6 [15,17,19,21,23,25,27] [1]
 have dw14:=drIs 14 [5,7] [1]
 have dw16:=drIs 16 [16,18,20,22,24] [1,4]
 have rw_:=rsIs [.cell 2 29]
 have hnum:True:=trivial
 clear hnum
 rcases hnum:numM p with _ | _
 have hnm:=numM_f hnum
 rotate_left
 have hnm:=numM_t hnum
 all_goals skip
 repeat' (first
  | refine g_ ?_
  | ((with_reducible refine And.intro ?_ ?_);(exact sv))
  | (refine DW.cond (by rfl) ?_ ?_<;>(first | exact i0_ | (intro hb;(try simp only [↓reduceCtorEq,not_true_eq_false,not_false_eq_true,hbs,Int.reduceBEq,Int.reduceBNe,Int.reduceEq] at hb);(try refine s_wbare_dc ?_))))
  | ((with_reducible first | refine FVg_cases ?_ ?_ | refine FDg_cases ?_ ?_)<;>(intro hb;rw [hb];revert hb;(first | exact i0_ | (intro hb;(try simp only [↓reduceCtorEq,not_true_eq_false,not_false_eq_true,hbs,Int.reduceBEq,Int.reduceBNe,Int.reduceEq] at hb);(try refine s_wbare_dc ?_)))))
  | ((first | refine rn_ ?_ | refine dn_ ?_ | refine kn_ ?_)<;>(refine s_wbare_dc ?_))
  | ((refine dm_ ?_);(first | (refine v_ (wnum_dc _ _) ?_ (hk:=fun q=>q.1);refine s_wbare_dc ?_)))
  | ((refine von_ ?_);refine s_wbare_dc ?_)
  | (refine q_ (wnum_dc _ _) ?_ (hk:=fun q=>q.1);refine s_wbare_dc ?_)
  | ((refine on_ ?_);refine s_wbare_dc ?_)
  | refine f_ ?_
  | refine vm_ ?_
  | with_reducible intro b)
 all_goals first
 | ((have hq0:¬ (0<p.qos):=by omega);(refine ⟨_,_,?_,⟨rfl,rfl⟩,?_⟩);rotate_left;(exact sub_);(clear hnm hnum);(unfold onlyM);(simp only [*,↓reduceIte,Bool.false_eq_true,reduceCtorEq,or_true,true_or,or_self,Int.reduceEq,if_true,if_false,Bool.and_true,Bool.and_false,decide_true,decide_false]);(refine le.agg ?_);(repeat (first | exact Les.nil | refine Les.cons le.rfl_ ?_ | refine Les.cons (le.gs rfl) ?_));done)
 | ((have hq0:0<p.qos:=by omega);(refine ⟨_,_,?_,⟨rfl,rfl⟩,?_⟩);rotate_left;(exact sub_);(clear hnm hnum);(unfold onlyM);(simp only [*,↓reduceIte,Bool.false_eq_true,reduceCtorEq,or_true,true_or,or_self,Int.reduceEq,if_true,if_false,Bool.and_true,Bool.and_false,decide_true,decide_false]);(refine le.agg ?_);(repeat (first | exact Les.nil | refine Les.cons le.rfl_ ?_ | refine Les.cons (le.gs rfl) ?_));done)
 | ((have hk5:p.kind=4\/p.kind=5\/p.kind=6\/p.kind=7\/p.kind=11:=by omega);(refine ⟨_,_,?_,⟨rfl,rfl⟩,?_⟩);rotate_left;(exact sub_);(clear hnm hnum);(unfold onlyM);(simp only [*,↓reduceIte,Bool.false_eq_true,reduceCtorEq,or_true,true_or,or_self,Int.reduceEq,if_true,if_false,Bool.and_true,Bool.and_false,decide_true,decide_false]);(refine le.agg ?_);(repeat (first | exact Les.nil | refine Les.cons le.rfl_ ?_ | refine Les.cons (le.gs rfl) ?_));done)
 | ((have hk5:¬ (p.kind=4\/p.kind=5\/p.kind=6\/p.kind=7\/p.kind=11):=by omega);(refine ⟨_,_,?_,⟨rfl,rfl⟩,?_⟩);rotate_left;(exact sub_);(clear hnm hnum);(unfold onlyM);(simp only [*,↓reduceIte,Bool.false_eq_true,reduceCtorEq,or_true,true_or,or_self,Int.reduceEq,if_true,if_false,Bool.and_true,Bool.and_false,decide_true,decide_false]);(refine le.agg ?_);(repeat (first | exact Les.nil | refine Les.cons le.rfl_ ?_ | refine Les.cons (le.gs rfl) ?_));done)
 | ((refine ⟨_,_,?_,⟨rfl,rfl⟩,?_⟩);rotate_left;(exact sub_);(clear hnm hnum);(unfold onlyM);(simp only [*,↓reduceIte,Bool.false_eq_true,reduceCtorEq,or_true,true_or,or_self,Int.reduceEq,if_true,if_false,Bool.and_true,Bool.and_false,decide_true,decide_false]);(refine le.agg ?_);(repeat (first | exact Les.nil | refine Les.cons le.rfl_ ?_ | refine Les.cons (le.gs rfl) ?_));done)
 | (trace_state;fail)
end
section
def valM (p:Pk):Bool:=(!numM p||inM p.id 1 65535)&&(if p.kind=2 then inM p.code 0 5&&(decide (p.code=0) || !p.present) else if p.kind=3 then inM p.qos 0 2&&textM p.topic else if p.kind=9 then decide (0<p.codes.length)&&p.codes.all codeOk else true)
theorem low7W:∀ r:Fin 256,IntKind.u8.wrap ((BitVec.ofInt IntKind.u8.bits ((r.val:Nat):Int) &&& ~~~ BitVec.ofInt IntKind.u8.bits 128).toNat:Int)=((r.val%128:Nat):Int):=by decide
theorem hi7W:∀ r:Fin 128,IntKind.u8.wrap ((BitVec.ofInt IntKind.u8.bits ((r.val:Nat):Int)|||BitVec.ofInt IntKind.u8.bits 128).toNat:Int)=((r.val+128:Nat):Int):=by decide
theorem sh7W (n:Int) (k:Nat) (h0:0<=n) (h1:n<268435456) (hk:k<=3):IntKind.u8.wrap ((BitVec.ofInt IntKind.u8.bits (IntKind.u8.wrap (n.fdiv (2 ^ min (7 * (k:Int)).toNat IntKind.i64.bits))) &&& ~~~ BitVec.ofInt IntKind.u8.bits 128).toNat:Int)=((n.toNat / 128 ^ k%128:Nat):Int):=by
 have e:=fdiv7 n.toNat k hk
 rw [Int.toNat_of_nonneg h0] at e
 rw [e]
 have e2:IntKind.u8.wrap ((n.toNat / 128 ^ k:Nat):Int)=((n.toNat / 128 ^ k%256:Nat):Int):=by simp [IntKind.wrap,IntKind.bits,IntKind.signed]
 rw [e2]
 have:=low7W ⟨n.toNat / 128 ^ k%256,Nat.mod_lt _ (by decide)⟩
 simp only at this
 rw [this,Nat.mod_mod_of_dvd _ (by decide)]
theorem or7W (r:Nat) (h:r<128):IntKind.u8.wrap ((BitVec.ofInt IntKind.u8.bits ((r:Nat):Int)|||BitVec.ofInt IntKind.u8.bits 128).toNat:Int)=((r+128:Nat):Int):=hi7W ⟨r,h⟩
theorem u8_of (r:Nat) (h:r<256):V.int .u8 ((r:Nat):Int)=u8 (byteW ((r:Nat):Int)):=u8_bW (by omega)
attribute [local irreducible] DW SeqD DV DOp DC DVX numM inM textM codeOk sizeM varM
theorem wv1_dc (c:Int) (F:Own):(True)->DC Tryz.prog 252 [.int .i64 c] (([]:Own)++F) fun d G=>d = .bool (!codeOk c)/\G=[]++F:=by
 intro hA
 refine DC.bodyS (n_:=10) (show Tryz.prog.funcs[252]? = some Tryz.f252 by kernel_rfl) rfl rfl (by rfl) ?_
 simp only [env0,List.cons_append,List.nil_append]
 have kw:=ksIs [0,2]
 have ow:=ownIs []
 repeat' (first
  | refine g_ ?_
  | ((with_reducible refine And.intro ?_ ?_);(exact sv))
  | (refine DW.cond (by rfl) ?_ ?_<;>(first | exact i0_ | (refine ic_ ?_;intro hb)))
  | ((with_reducible refine FVg_cases ?_ ?_)<;>(intro hb;rw [hb];revert hb;(first | exact i0_ | (refine i_ ?_;intro hb))))
  | refine r_ ?_
  | refine k_ ?_
  | (refine q_ (win_dc _ _ _ _) ?_)
  | refine o_ ?_
  | refine f_ ?_
  | with_reducible intro b)
 all_goals first
 | ((refine ⟨_,_,le.of_eq ?_,⟨rfl,rfl⟩,?_⟩);rotate_left;(exact sub_);congr 1;unfold codeOk;rw [hb];rw [Bool.eq_iff_iff];(simp<;>done);done)
 | (trace_state;fail)
theorem wif_dc (l:List Int) (F:Own):(l.length<=1000000)->DC Tryz.prog 281 [.sl (l.map (V.int .i64)), .fn (.func 252) [] []] (([]:Own)++F) fun d G=>∃ i:Int,decide (i ≥ 0) = !l.all codeOk/\d = .int .i64 i/\G=[]++F:=by
 intro hA
 have hl:=hA
 refine DC.bodyS (n_:=19) (show Tryz.prog.funcs[281]? = some Tryz.f281 by kernel_rfl) rfl rfl (by rfl) ?_
 simp only [env0,List.cons_append,List.nil_append]
 have kw:=ksIs [0,1,4,5,7,8,9,16]
 have ow:=ownIs []
 repeat' (first
  | ((with_reducible refine DW.loopB 0 (X:=Nat) (fun x=>x<=l.length/\(l.take x).all codeOk=true) (fun x=>[(0, .sl (l.map (V.int .i64))),(1, .fn (.func 252) [] []),(7, .int .i64 l.length),(8, .int .i64 x)]) (fun x=>([]:Own)) (fun x=>l.length - x) (0) ?_ ?_ ?_);exact (⟨Nat.zero_le _,rfl⟩);(simp [Sub,get,keepL]<;>fail);(try simp only [List.cons_append,List.nil_append]);refine pl_ ?_;intro k ⟨hk,hks⟩;(try simp only [List.cons_append,List.nil_append]);(try simp only at hk hks))
  | refine g_ ?_
  | ((with_reducible refine And.intro ?_ ?_);(exact sv))
  | (refine DW.cond (by rfl) ?_ ?_<;>(first | exact i0_ | (refine ic_ ?_;intro hb)))
  | ((with_reducible refine FVg_cases ?_ ?_)<;>(intro hb;rw [hb];revert hb;(first | exact i0_ | (refine i_ ?_;intro hb))))
  | refine r_ ?_
  | refine k_ ?_
  | (refine q_ (wv1_dc _ _) ?_)
  | refine o_ ?_
  | refine f_ ?_
  | with_reducible intro b)
 all_goals first
 | ((have hc:codeOk (l.getD k default)=false:=by simpa using hb)
    refine ⟨_,_,le.rfl_,⟨(k:Int),?_,rfl,rfl⟩,SubP.refl⟩;(rw [all_take_f (f:=codeOk) (k:=k) (by omega) hc];simp;done))
 | ((have hc:codeOk (l.getD k default)=true:=by simpa using hb)
    refine ⟨k+1,⟨by (try simp only);omega,all_take_s hks (by omega) hc⟩,by (try simp only);omega,by simp [Sub,get],?_⟩;((try dsimp only);(exact sub_));done)
 | ((have e:l.all codeOk=true:=by rwa [List.take_of_length_le (by omega)] at hks)
    refine ⟨_,_,le.rfl_,⟨-1,?_,rfl,rfl⟩,SubP.refl⟩;(rw [e];rfl))
 | (trace_state;fail)
theorem wcf_dc (l:List Int) (F:Own):(l.length<=1000000)->DC Tryz.prog 251 [.sl (l.map (V.int .i64)), .fn (.func 252) [] []] (([]:Own)++F) fun d G=>d = .bool (!l.all codeOk)/\G=[]++F:=by
 intro hA
 have hl:=hA
 refine DC.bodyS (n_:=9) (show Tryz.prog.funcs[251]? = some Tryz.f251 by kernel_rfl) rfl rfl (by rfl) ?_
 simp only [env0,List.cons_append,List.nil_append]
 have kw:=ksIs [0,1,4]
 have ow:=ownIs []
 repeat' (first
  | refine g_ ?_
  | ((with_reducible refine And.intro ?_ ?_);(exact sv))
  | (refine DW.cond (by rfl) ?_ ?_<;>(first | exact i0_ | (refine ic_ ?_;intro hb)))
  | ((with_reducible refine FVg_cases ?_ ?_)<;>(intro hb;rw [hb];revert hb;(first | exact i0_ | (refine i_ ?_;intro hb))))
  | refine r_ ?_
  | refine k_ ?_
  | (refine p_ (wif_dc _ _) ?_;rintro d H1 ⟨i,hi,rfl,rfl⟩<;>refine s_ ?_)
  | refine o_ ?_
  | refine f_ ?_
  | with_reducible intro b)
 all_goals first
 | ((rw [<-hi]);(first | exact fin_ | refine finq_ ?_);done)
 | ((refine ⟨_,_,le.of_eq ?_,⟨rfl,rfl⟩,?_⟩);rotate_left;(exact sub_);(rw [<-hi]);done)
 | (trace_state;fail)
theorem s_wval_dc {P Q:Prop} (q:Q) (h:Hid Q->P:=by (intro q;simp (maxSteps:=1000000) (disch:=omega) only [push_cast,↓reduceIte,reduceCtorEq,Nat.reduceAdd,Nat.reduceMul,Nat.reduceLT,Nat.reduceLeDiff,Nat.reduceEqDiff,Nat.reduceSub,Int.reduceToNat,Int.reduceLT,Int.reduceLE,Int.reduceAdd,Int.reduceSub,Int.reduceMul,Int.reduceNeg,Nat.reduceBEq,Int.reduceBEq,Int.reduceBNe,Nat.reduceBNe,Int.reduceEq,List.append_eq,List.cons_append,List.nil_append,hnum];exact q.1)):P:=h ⟨q⟩
section
attribute [local push_cast 2000] List.append_eq List.cons_append List.nil_append
theorem wval_dc (p:Pk) (F:Own):(PkN p/\(p.kind≠1/\p.kind≠8/\p.kind≠10))->DC Tryz.prog 199 [.agg [.int .i64 p.kind, .bool p.dup, .bool p.retain, .int .i64 p.qos, .int .i64 p.id, .str p.topic, .sl (p.payload.map u8), .int .i64 p.level, .str p.client, .bool p.clean, .int .i64 p.keep, .bool p.hasWill, .str p.wtopic, .sl (p.wpay.map u8), .int .i64 p.wqos, .bool p.wretain, .bool p.hasUser, .bool p.hasPass, .str p.user, .sl (p.pass.map u8), .bool p.present, .int .i64 p.code, .sl (p.subs.map encU), .sl (p.codes.map (V.int .i64))]] ([knF,knA]++F) fun d G=>d = .bool (valM p)/\G=[knF,knA]++F:=by
 intro hA
 obtain ⟨hp,hk1,hk8,hk10⟩:=hA
 refine DC.bodyS (n_:=114) (show Tryz.prog.funcs[199]? = some Tryz.f199 by kernel_rfl) rfl rfl (by rfl) ?_
 simp only [env0,List.cons_append,List.nil_append]
 have kw:=ksIs [0,1,2,10,12,13,67,82,92,97,102]
 have ow:=ownIs []
 have s2:=hp.codes;have h1:=hp.topic
 have hnum:True:=trivial
 clear hnum
 rcases hnum:numM p with _ | _
 all_goals skip
 repeat' (first
  | refine g_ ?_
  | ((with_reducible refine And.intro ?_ ?_);(exact sv))
  | (refine DW.cond (by rfl) ?_ ?_<;>(first | exact i0_ | (intro hb;(try simp only [↓reduceCtorEq,not_true_eq_false,not_false_eq_true,hbs,Int.reduceBEq,Int.reduceBNe,Int.reduceEq] at hb);(try refine s_wval_dc ?_))))
  | ((with_reducible refine FVg_cases ?_ ?_)<;>(intro hb;rw [hb];revert hb;(first | exact i0_ | (intro hb;(try simp only [↓reduceCtorEq,not_true_eq_false,not_false_eq_true,hbs,Int.reduceBEq,Int.reduceBNe,Int.reduceEq] at hb);(try refine s_wval_dc ?_)))))
  | ((first | refine rn_ ?_ | refine kn_ ?_)<;>(refine s_wval_dc ?_))
  | ((first | refine q_ (wnum_dc _ _) ?_ (hk:=fun q=>q.1) | refine q_ (win_dc _ _ _ _) ?_ (hk:=fun q=>q.1) | refine q_ (wtext_dc _ _) ?_ (hk:=fun q=>q.1));refine s_wval_dc ?_)
  | (refine q_ (wcf_dc _ _) ?_ (hk:=fun q=>q.1);refine s_wval_dc ?_)
  | ((refine on_ ?_);refine s_wval_dc ?_)
  | refine f_ ?_
  | with_reducible intro b)
 all_goals first
 | ((refine ⟨_,_,le.of_eq ?_,⟨rfl,rfl⟩,?_⟩);rotate_left;(exact sub_);congr 1;unfold valM;rw [Bool.eq_iff_iff];(simp_all<;>omega);done)
 | ((refine ⟨_,_,le.of_eq ?_,⟨rfl,rfl⟩,?_⟩);rotate_left;(exact sub_);congr 1;unfold valM;(simp_all<;>omega);done)
 | (trace_state;fail)
end
theorem wfirst_dc (p:Pk) (F:Own):(True)->DC Tryz.prog 154 [.agg [.int .i64 p.kind, .bool p.dup, .bool p.retain, .int .i64 p.qos, .int .i64 p.id, .str p.topic, .sl (p.payload.map u8), .int .i64 p.level, .str p.client, .bool p.clean, .int .i64 p.keep, .bool p.hasWill, .str p.wtopic, .sl (p.wpay.map u8), .int .i64 p.wqos, .bool p.wretain, .bool p.hasUser, .bool p.hasPass, .str p.user, .sl (p.pass.map u8), .bool p.present, .int .i64 p.code, .sl (p.subs.map encU), .sl (p.codes.map (V.int .i64))]] (([]:Own)++F) fun d G=>d=u8 (headM p)/\G=[]++F:=by
 intro hA
 refine DC.bodyS (n_:=29) (show Tryz.prog.funcs[154]? = some Tryz.f154 by kernel_rfl) rfl rfl (by rfl) ?_
 simp only [env0,List.cons_append,List.nil_append]
 have kw:=ksIs [0,1,2,3,5,6,10]
 have ow:=ownIs []
 have dw8:=drIs 8 [] [1,2,4,8,9]
 repeat' (first
  | refine g_ ?_
  | ((with_reducible refine And.intro ?_ ?_);(exact sv))
  | (refine DW.cond (by rfl) ?_ ?_<;>(first | exact i0_ | (refine ic_ ?_;intro hb)))
  | ((with_reducible first | refine FVg_cases ?_ ?_ | refine FDg_cases ?_ ?_)<;>(intro hb;rw [hb];revert hb;(first | exact i0_ | (refine i_ ?_;intro hb))))
  | refine r_ ?_
  | refine d_ ?_
  | refine k_ ?_
  | ((refine dm_ ?_);(first | (refine v_ (wflag_dc _ _ _) ?_)))
  | refine vo_ ?_
  | (refine q_ (wflag_dc _ _ _) ?_)
  | refine o_ ?_
  | refine f_ ?_
  | refine vm_ ?_
  | with_reducible intro b)
 all_goals first
 | ((refine ⟨_,_,le.of_eq ?_,⟨rfl,rfl⟩,?_⟩);rotate_left;(exact sub_);(rw [u8_byteW]);congr 1;unfold headM flagsM;(simp only [*,↓reduceIte,Int.reduceEq,or_self,or_true,true_or,or_false,false_or,if_true,if_false]);(apply byteW_mod);(simp [IntKind.wrap,IntKind.bits,IntKind.signed]<;>omega);done)
 | (trace_state;fail)
theorem wsize_dc (n:Int) (F:Own):(True)->DC Tryz.prog 205 [.int .i64 n] (([]:Own)++F) fun d G=>d = .int .i64 (sizeM n)/\G=[]++F:=by
 intro hA
 refine DC.bodyS (n_:=19) (show Tryz.prog.funcs[205]? = some Tryz.f205 by kernel_rfl) rfl rfl (by rfl) ?_
 simp only [env0,List.cons_append,List.nil_append]
 have kw:=ksIs [0,2,3,10,13,16]
 have ow:=ownIs []
 repeat' (first
  | refine g_ ?_
  | ((with_reducible refine And.intro ?_ ?_);(exact sv))
  | (refine DW.cond (by rfl) ?_ ?_<;>(first | exact i0_ | (refine ic_ ?_;intro hb)))
  | ((with_reducible refine FVg_cases ?_ ?_)<;>(intro hb;rw [hb];revert hb;(first | exact i0_ | (refine i_ ?_;intro hb))))
  | refine r_ ?_
  | refine k_ ?_
  | refine o_ ?_
  | refine f_ ?_
  | with_reducible intro b)
 all_goals first
 | ((refine ⟨_,_,le.of_eq ?_,⟨rfl,rfl⟩,?_⟩);rotate_left;(exact sub_);congr 1;unfold sizeM;(repeat' split)<;>(first | rfl | omega))
 | (trace_state;fail)
theorem sv_wvput_dc {p:Prop} (h:p:=by first | exact sv | (refine ⟨?_,?_,fun _ _=>rfl⟩<;>omega) | fail):p:=h
theorem wvput_dc (n:Int) (F:Own):(True)->DC Tryz.prog 152 [.int .i64 n] (([]:Own)++F) fun d G=>∃ e:Int,(sizeM n≠0->e=0)/\d = .tup [.sl ((varM n).map u8), .int .i64 e]/\G=[]++F:=by
 intro hA
 refine DC.bodyS (n_:=34) (show Tryz.prog.funcs[152]? = some Tryz.f152 by kernel_rfl) rfl rfl (by rfl) ?_
 simp only [env0,List.cons_append,List.nil_append]
 have kw:=ksIs [0,2,3,4,5,6,7,11,12,13,14,25]
 have ow:=ownIs []
 have hz4:=sizeM_le n
 refine DW.tail0 1 ?_
 repeat' (first
  | ((with_reducible refine DW.loopB 0 (X:=Nat×Value×YSx) (fun x=>x.1<=sizeM n/\x.2.2=(varM n).take x.1/\x.2.2.length=x.1) (fun x=>[(0, .int .i64 n),(4, .int .i64 (sizeM n)),(5, .gs x.2.1 (x.2.2.map u8)),(12, .int .i64 (sizeM n)),(13, .int .i64 x.1)]) (fun x=>.tail 1 x.2.1::([]:Own)) (fun x=>sizeM n - x.1) ((0, .slice none 0 0,[])) ?_ ?_ ?_);exact (⟨Nat.zero_le _,rfl,rfl⟩);(simp [Sub,get,keepL]<;>fail);(try simp only [List.cons_append,List.nil_append]);refine pl_ ?_;intro ⟨k,v,x⟩ ⟨hk,hxe,hx⟩;(try simp only [List.cons_append,List.nil_append]);(try simp only at hk hxe hx))
  | refine g_ ?_
  | ((with_reducible refine And.intro ?_ ?_);(exact sv_wvput_dc))
  | (refine DW.cond (by rfl) ?_ ?_<;>(first | exact i0_ | (refine ic_ ?_;intro hb)))
  | ((with_reducible refine FVg_cases ?_ ?_)<;>(intro hb;rw [hb];revert hb;(first | exact i0_ | (refine i_ ?_;intro hb))))
  | refine r_ ?_
  | refine k_ ?_
  | (refine q_ (wsize_dc _ _) ?_ (ha:=by exact sv_wvput_dc))
  | refine o_ ?_
  | refine f_ ?_
  | with_reducible intro b)
 all_goals first
 | ((have e0:varM n=[]:=List.eq_nil_of_length_eq_zero (by rw [varM_len];omega));(rw [e0]);refine ⟨_,_,le.tup (Les.cons (le.gs List.map_nil.symm) (Les.cons le.rfl_ Les.nil)),⟨_,(fun h=>absurd (by omega) h),rfl,rfl⟩,?_⟩;(exact sub_);done)
 | ((rw [List.take_of_length_le (by rw [varM_len];omega)] at hxe);(subst hxe);refine ⟨_,_,le.tup (Les.cons (le.gs rfl) (Les.cons le.rfl_ Les.nil)),⟨0,(fun _=>rfl),rfl,rfl⟩,?_⟩;(exact sub_);done)
 | ((obtain ⟨n0,n1⟩:=size_rng (n:=n) (by omega));(rw [sh7W n k n0 n1 (by omega),or7W _ (Nat.mod_lt _ (by decide)),u8_of _ (by have:=Nat.mod_lt (n.toNat / 128 ^ k) (show 0<128 by decide);omega)]);refine ⟨(k+1,b,x++[byteW ((n.toNat / 128 ^ k%128+128:Nat):Int)]),⟨by (try simp only);omega,by (rw [var_hi (by omega),<-hxe]),by simp [hx]⟩,by (try simp only);omega,by simp [Sub,get],?_⟩;((try dsimp only);(exact sub_));done)
 | ((obtain ⟨n0,n1⟩:=size_rng (n:=n) (by omega));(rw [sh7W n k n0 n1 (by omega),u8_of _ (by have:=Nat.mod_lt (n.toNat / 128 ^ k) (show 0<128 by decide);omega)]);refine ⟨(k+1,b,x++[byteW ((n.toNat / 128 ^ k%128:Nat):Int)]),⟨by (try simp only);omega,by (rw [var_lo (by omega) (by omega),<-hxe]),by simp [hx]⟩,by (try simp only);omega,by simp [Sub,get],?_⟩;((try dsimp only);(exact sub_));done)
 | (trace_state;fail)
end
section
theorem wnum3_dc (p:Pk) (F:Own):(p.kind=3)->DC Tryz.prog 203 [.agg [.int .i64 3, .bool p.dup, .bool p.retain, .int .i64 p.qos, .int .i64 p.id, .str p.topic, .sl (p.payload.map u8), .int .i64 p.level, .str p.client, .bool p.clean, .int .i64 p.keep, .bool p.hasWill, .str p.wtopic, .sl (p.wpay.map u8), .int .i64 p.wqos, .bool p.wretain, .bool p.hasUser, .bool p.hasPass, .str p.user, .sl (p.pass.map u8), .bool p.present, .int .i64 p.code, .sl (p.subs.map encU), .sl (p.codes.map (V.int .i64))]] (([]:Own)++F) fun d G=>d = .bool (numM p)/\G=[]++F:=fun h=>by
 have:=wnum_dc p F trivial
 rwa [h] at this
attribute [local irreducible] DW SeqD DV DOp DC DVX
theorem sv_wbQ_dc {p:Prop} (h:p:=by first | exact sv | (refine ⟨?_,?_⟩<;>((try simp only [List.length_append,List.length_cons,List.length_nil,twoM_len,lumpM_len,List.length_map])<;>omega)) | (refine ⟨?_,?_,?_⟩<;>((try simp only [List.length_append,List.length_cons,List.length_nil,twoM_len,lumpM_len,List.length_map])<;>omega)) | (simp [u8,V.one,V.n];omega) | (simp [u8,V.one,V.n]<;>fail) | fail):p:=h
theorem s_wbQ_dc {P Q:Prop} (q:Q) (h:Hid Q->P:=by (intro q;simp (maxSteps:=1000000) (disch:=omega) only [push_cast,↓reduceIte,reduceCtorEq,Nat.reduceAdd,Nat.reduceMul,Nat.reduceLT,Nat.reduceLeDiff,Nat.reduceEqDiff,Nat.reduceSub,Int.reduceToNat,Int.reduceLT,Int.reduceLE,Int.reduceAdd,Int.reduceSub,Int.reduceMul,Int.reduceNeg,Nat.reduceBEq,Int.reduceBEq,Int.reduceBNe,Nat.reduceBNe,Int.reduceEq,snocX2,snocX1,cells_u8Y,bytes_are,bytes_back,twoM_len,lumpM_len,hnum,hkd,hsub,hcod];exact q.1)):P:=h ⟨q⟩
section
attribute [local push_cast 2000] snocX2 snocX1 cells_u8Y bytes_are bytes_back twoM_len lumpM_len
theorem wbQ_dc (p:Pk) (F:Own):(PkN p/\p.kind=3/\p.subs.length=0/\p.codes.length=0/\numM p=true)->DC Tryz.prog 151 [.agg [.int .i64 p.kind, .bool p.dup, .bool p.retain, .int .i64 p.qos, .int .i64 p.id, .str p.topic, .sl (p.payload.map u8), .int .i64 p.level, .str p.client, .bool p.clean, .int .i64 p.keep, .bool p.hasWill, .str p.wtopic, .sl (p.wpay.map u8), .int .i64 p.wqos, .bool p.wretain, .bool p.hasUser, .bool p.hasPass, .str p.user, .sl (p.pass.map u8), .bool p.present, .int .i64 p.code, .sl (p.subs.map encU), .sl (p.codes.map (V.int .i64))]] (([]:Own)++F) fun d G=>∃ v':Value,d = .ar v' ((lumpM p.topic++twoM p.id++p.payload)).length/\G = .arr 1 v' (((lumpM p.topic++twoM p.id++p.payload)).map u8)::F:=by
 intro hA
 obtain ⟨hp,hkd,hsub,hcod,hnum⟩:=hA
 refine DC.bodyS (n_:=73) (show Tryz.prog.funcs[151]? = some Tryz.f151 by kernel_rfl) rfl rfl (by rfl) ?_
 simp only [env0,List.cons_append,List.nil_append]
 have kw:=ksIs [0,1,2,3,5,7,9,10,14,24,30,36,37,38,39,48,57,58,59,60]
 have ow:=ownIs []
 have dw6:=drIs 6 [] [1,2,5]
 have h1:=hp.topic;have h2:=hp.payload
 repeat' (first
  | ((with_reducible refine DW.loopB 1 (X:=Nat) (fun x=>x<=0) (fun x=>[(1, .sp [.int .i64 3, .bool p.dup, .bool p.retain, .int .i64 p.qos, .int .i64 p.id, .str p.topic, .sl (p.payload.map u8), .int .i64 p.level, .str p.client, .bool p.clean, .int .i64 p.keep, .bool p.hasWill, .str p.wtopic, .sl (p.wpay.map u8), .int .i64 p.wqos, .bool p.wretain, .bool p.hasUser, .bool p.hasPass, .str p.user, .sl (p.pass.map u8), .bool p.present, .int .i64 p.code, .sl (p.subs.map encU), .sl (p.codes.map (V.int .i64))]),(3, .ar v2 (lumpM p.topic++twoM p.id).length),(36, .sl (p.subs.map encU)),(37, .int .i64 0),(38, .int .i64 x)]) (fun x=>.arr 1 v2 ((lumpM p.topic++twoM p.id).map u8)::([]:Own)) (fun x=>0) (0) ?_ ?_ ?_);exact (Nat.zero_le _);(simp [Sub,get,keepL]<;>fail);(try simp only [List.cons_append,List.nil_append]);refine pl_ ?_;intro k hk;(try simp only [List.cons_append,List.nil_append]);(try simp only at hk))
  | ((with_reducible refine DW.loopB 3 (X:=Nat) (fun x=>x<=0) (fun x=>[(1, .sp [.int .i64 3, .bool p.dup, .bool p.retain, .int .i64 p.qos, .int .i64 p.id, .str p.topic, .sl (p.payload.map u8), .int .i64 p.level, .str p.client, .bool p.clean, .int .i64 p.keep, .bool p.hasWill, .str p.wtopic, .sl (p.wpay.map u8), .int .i64 p.wqos, .bool p.wretain, .bool p.hasUser, .bool p.hasPass, .str p.user, .sl (p.pass.map u8), .bool p.present, .int .i64 p.code, .sl (p.subs.map encU), .sl (p.codes.map (V.int .i64))]),(3, .ar v2 (lumpM p.topic++twoM p.id).length),(57, .sl (p.codes.map (V.int .i64))),(58, .int .i64 0),(59, .int .i64 x)]) (fun x=>.arr 1 v2 ((lumpM p.topic++twoM p.id).map u8)::([]:Own)) (fun x=>0) (0) ?_ ?_ ?_);exact (Nat.zero_le _);(simp [Sub,get,keepL]<;>fail);(try simp only [List.cons_append,List.nil_append]);refine pl_ ?_;intro i hi;(try simp only [List.cons_append,List.nil_append]);(try simp only at hi))
  | refine g_ ?_
  | ((with_reducible refine And.intro ?_ ?_);(exact sv_wbQ_dc))
  | (refine DW.cond (by rfl) ?_ ?_<;>(first | exact i0_ | (intro hb;(try simp only [↓reduceCtorEq,not_true_eq_false,not_false_eq_true,hbs,Int.reduceBEq,Int.reduceBNe,Int.reduceEq] at hb);(try refine s_wbQ_dc ?_))))
  | ((with_reducible first | refine FVg_cases ?_ ?_ | refine FDg_cases ?_ ?_)<;>(intro hb;rw [hb];revert hb;(first | exact i0_ | (intro hb;(try simp only [↓reduceCtorEq,not_true_eq_false,not_false_eq_true,hbs,Int.reduceBEq,Int.reduceBNe,Int.reduceEq] at hb);(try refine s_wbQ_dc ?_)))))
  | ((first | refine rn_ ?_ | refine dn_ ?_ | refine kn_ ?_)<;>(refine s_wbQ_dc ?_))
  | ((refine dm_ ?_);(first | (refine v_ (wnum3_dc _ _) ?_ (ha:=by exact sv_wbQ_dc) (hk:=fun q=>q.1);refine s_wbQ_dc ?_)))
  | ((refine von_ ?_);refine s_wbQ_dc ?_)
  | (refine q_ (wnum3_dc _ _) ?_ (ha:=by exact sv_wbQ_dc) (hk:=fun q=>q.1);refine s_wbQ_dc ?_)
  | (refine p_ (lumpNW_dc _ _) ?_ (ha:=by exact sv_wbQ_dc);rintro d H1 ⟨v1,rfl,rfl⟩<;>refine s_wbQ_dc ?_)
  | (refine p_ (twoW_dc _ _ _ _ _) ?_ (ha:=by exact sv_wbQ_dc);rintro d H1 ⟨v2,rfl,rfl⟩<;>refine s_wbQ_dc ?_)
  | ((refine on_ ?_);refine s_wbQ_dc ?_)
  | refine f_ ?_
  | refine vm_ ?_
  | with_reducible intro b)
 all_goals first
 | ((rw [<-List.map_append]);(try rw [List.append_assoc]);(refine ⟨_,_,le.of_eq ?_,⟨b,rfl,rfl⟩,?_⟩);(focus (congr 1;omega));(exact sub_);done)
 | ((rw [<-List.map_append]);(try rw [List.append_assoc]);(refine ⟨_,_,le.of_eq ?_,⟨b,rfl,rfl⟩,?_⟩);(focus rfl);(exact sub_);done)
 | (trace_state;fail)
end
theorem sv_wbZ_dc {p:Prop} (h:p:=by first | exact sv | (refine ⟨?_,?_⟩<;>((try simp only [List.length_append,List.length_cons,List.length_nil,twoM_len,lumpM_len,List.length_map])<;>omega)) | (refine ⟨?_,?_,?_⟩<;>((try simp only [List.length_append,List.length_cons,List.length_nil,twoM_len,lumpM_len,List.length_map])<;>omega)) | (simp [u8,V.one,V.n];omega) | (simp [u8,V.one,V.n]<;>fail) | fail):p:=h
theorem s_wbZ_dc {P Q:Prop} (q:Q) (h:Hid Q->P:=by (intro q;simp (maxSteps:=1000000) (disch:=omega) only [push_cast,↓reduceIte,reduceCtorEq,Nat.reduceAdd,Nat.reduceMul,Nat.reduceLT,Nat.reduceLeDiff,Nat.reduceEqDiff,Nat.reduceSub,Int.reduceToNat,Int.reduceLT,Int.reduceLE,Int.reduceAdd,Int.reduceSub,Int.reduceMul,Int.reduceNeg,Nat.reduceBEq,Int.reduceBEq,Int.reduceBNe,Nat.reduceBNe,Int.reduceEq,snocX2,snocX1,cells_u8Y,bytes_are,bytes_back,twoM_len,lumpM_len,hnum,hkd,hsub,hcod];exact q.1)):P:=h ⟨q⟩
section
attribute [local push_cast 2000] snocX2 snocX1 cells_u8Y bytes_are bytes_back twoM_len lumpM_len
theorem wbZ_dc (p:Pk) (F:Own):(PkN p/\p.kind=3/\p.subs.length=0/\p.codes.length=0/\numM p=false)->DC Tryz.prog 151 [.agg [.int .i64 p.kind, .bool p.dup, .bool p.retain, .int .i64 p.qos, .int .i64 p.id, .str p.topic, .sl (p.payload.map u8), .int .i64 p.level, .str p.client, .bool p.clean, .int .i64 p.keep, .bool p.hasWill, .str p.wtopic, .sl (p.wpay.map u8), .int .i64 p.wqos, .bool p.wretain, .bool p.hasUser, .bool p.hasPass, .str p.user, .sl (p.pass.map u8), .bool p.present, .int .i64 p.code, .sl (p.subs.map encU), .sl (p.codes.map (V.int .i64))]] (([]:Own)++F) fun d G=>∃ v':Value,d = .ar v' ((lumpM p.topic++p.payload)).length/\G = .arr 1 v' (((lumpM p.topic++p.payload)).map u8)::F:=by
 intro hA
 obtain ⟨hp,hkd,hsub,hcod,hnum⟩:=hA
 refine DC.bodyS (n_:=73) (show Tryz.prog.funcs[151]? = some Tryz.f151 by kernel_rfl) rfl rfl (by rfl) ?_
 simp only [env0,List.cons_append,List.nil_append]
 have kw:=ksIs [0,1,2,3,5,7,9,10,14,24,30,36,37,38,39,48,57,58,59,60]
 have ow:=ownIs []
 have dw6:=drIs 6 [] [1,2,5]
 have h1:=hp.topic;have h2:=hp.payload
 repeat' (first
  | ((with_reducible refine DW.loopB 1 (X:=Nat) (fun x=>x<=0) (fun x=>[(1, .sp [.int .i64 3, .bool p.dup, .bool p.retain, .int .i64 p.qos, .int .i64 p.id, .str p.topic, .sl (p.payload.map u8), .int .i64 p.level, .str p.client, .bool p.clean, .int .i64 p.keep, .bool p.hasWill, .str p.wtopic, .sl (p.wpay.map u8), .int .i64 p.wqos, .bool p.wretain, .bool p.hasUser, .bool p.hasPass, .str p.user, .sl (p.pass.map u8), .bool p.present, .int .i64 p.code, .sl (p.subs.map encU), .sl (p.codes.map (V.int .i64))]),(3, .ar v1 (lumpM p.topic).length),(36, .sl (p.subs.map encU)),(37, .int .i64 0),(38, .int .i64 x)]) (fun x=>.arr 1 v1 ((lumpM p.topic).map u8)::([]:Own)) (fun x=>0) (0) ?_ ?_ ?_);exact (Nat.zero_le _);(simp [Sub,get,keepL]<;>fail);(try simp only [List.cons_append,List.nil_append]);refine pl_ ?_;intro k hk;(try simp only [List.cons_append,List.nil_append]);(try simp only at hk))
  | ((with_reducible refine DW.loopB 3 (X:=Nat) (fun x=>x<=0) (fun x=>[(1, .sp [.int .i64 3, .bool p.dup, .bool p.retain, .int .i64 p.qos, .int .i64 p.id, .str p.topic, .sl (p.payload.map u8), .int .i64 p.level, .str p.client, .bool p.clean, .int .i64 p.keep, .bool p.hasWill, .str p.wtopic, .sl (p.wpay.map u8), .int .i64 p.wqos, .bool p.wretain, .bool p.hasUser, .bool p.hasPass, .str p.user, .sl (p.pass.map u8), .bool p.present, .int .i64 p.code, .sl (p.subs.map encU), .sl (p.codes.map (V.int .i64))]),(3, .ar v1 (lumpM p.topic).length),(57, .sl (p.codes.map (V.int .i64))),(58, .int .i64 0),(59, .int .i64 x)]) (fun x=>.arr 1 v1 ((lumpM p.topic).map u8)::([]:Own)) (fun x=>0) (0) ?_ ?_ ?_);exact (Nat.zero_le _);(simp [Sub,get,keepL]<;>fail);(try simp only [List.cons_append,List.nil_append]);refine pl_ ?_;intro i hi;(try simp only [List.cons_append,List.nil_append]);(try simp only at hi))
  | refine g_ ?_
  | ((with_reducible refine And.intro ?_ ?_);(exact sv_wbZ_dc))
  | (refine DW.cond (by rfl) ?_ ?_<;>(first | exact i0_ | (intro hb;(try simp only [↓reduceCtorEq,not_true_eq_false,not_false_eq_true,hbs,Int.reduceBEq,Int.reduceBNe,Int.reduceEq] at hb);(try refine s_wbZ_dc ?_))))
  | ((with_reducible first | refine FVg_cases ?_ ?_ | refine FDg_cases ?_ ?_)<;>(intro hb;rw [hb];revert hb;(first | exact i0_ | (intro hb;(try simp only [↓reduceCtorEq,not_true_eq_false,not_false_eq_true,hbs,Int.reduceBEq,Int.reduceBNe,Int.reduceEq] at hb);(try refine s_wbZ_dc ?_)))))
  | ((first | refine rn_ ?_ | refine dn_ ?_ | refine kn_ ?_)<;>(refine s_wbZ_dc ?_))
  | ((refine dm_ ?_);(first | (refine v_ (wnum3_dc _ _) ?_ (ha:=by exact sv_wbZ_dc) (hk:=fun q=>q.1);refine s_wbZ_dc ?_)))
  | ((refine von_ ?_);refine s_wbZ_dc ?_)
  | (refine q_ (wnum3_dc _ _) ?_ (ha:=by exact sv_wbZ_dc) (hk:=fun q=>q.1);refine s_wbZ_dc ?_)
  | (refine p_ (lumpNW_dc _ _) ?_ (ha:=by exact sv_wbZ_dc);rintro d H1 ⟨v1,rfl,rfl⟩<;>refine s_wbZ_dc ?_)
  | (refine p_ (twoW_dc _ _ _ _ _) ?_ (ha:=by exact sv_wbZ_dc);rintro d H1 ⟨v2,rfl,rfl⟩<;>refine s_wbZ_dc ?_)
  | ((refine on_ ?_);refine s_wbZ_dc ?_)
  | refine f_ ?_
  | refine vm_ ?_
  | with_reducible intro b)
 all_goals first
 | ((rw [<-List.map_append]);(try rw [List.append_assoc]);(refine ⟨_,_,le.of_eq ?_,⟨b,rfl,rfl⟩,?_⟩);(focus (congr 1;omega));(exact sub_);done)
 | ((rw [<-List.map_append]);(try rw [List.append_assoc]);(refine ⟨_,_,le.of_eq ?_,⟨b,rfl,rfl⟩,?_⟩);(focus rfl);(exact sub_);done)
 | (trace_state;fail)
end
theorem sv_wbA_dc {p:Prop} (h:p:=by first | exact sv | (refine ⟨?_,?_⟩<;>((try simp only [List.length_append,List.length_cons,List.length_nil,twoM_len,lumpM_len,List.length_map])<;>omega)) | (refine ⟨?_,?_,?_⟩<;>((try simp only [List.length_append,List.length_cons,List.length_nil,twoM_len,lumpM_len,List.length_map])<;>omega)) | (simp [u8,V.one,V.n];omega) | (simp [u8,V.one,V.n]<;>fail) | fail):p:=h
theorem s_wbA_dc {P Q:Prop} (q:Q) (h:Hid Q->P:=by (intro q;simp (maxSteps:=1000000) (disch:=omega) only [push_cast,↓reduceIte,reduceCtorEq,Nat.reduceAdd,Nat.reduceMul,Nat.reduceLT,Nat.reduceLeDiff,Nat.reduceEqDiff,Nat.reduceSub,Int.reduceToNat,Int.reduceLT,Int.reduceLE,Int.reduceAdd,Int.reduceSub,Int.reduceMul,Int.reduceNeg,Nat.reduceBEq,Int.reduceBEq,Int.reduceBNe,Nat.reduceBNe,Int.reduceEq,snocX2,snocX1,cells_u8Y,bytes_are,bytes_back,twoM_len,lumpM_len,hnum,hkd,hsub];exact q.1)):P:=h ⟨q⟩
section
attribute [local push_cast 2000] snocX2 snocX1 cells_u8Y bytes_are bytes_back twoM_len lumpM_len
theorem wbA_dc (p:Pk) (F:Own):(PkN p/\(p.kind=4\/p.kind=5\/p.kind=6\/p.kind=7\/p.kind=9\/p.kind=11)/\p.subs.length=0/\p.payload.length=0/\numM p=true)->DC Tryz.prog 151 [.agg [.int .i64 p.kind, .bool p.dup, .bool p.retain, .int .i64 p.qos, .int .i64 p.id, .str p.topic, .sl (p.payload.map u8), .int .i64 p.level, .str p.client, .bool p.clean, .int .i64 p.keep, .bool p.hasWill, .str p.wtopic, .sl (p.wpay.map u8), .int .i64 p.wqos, .bool p.wretain, .bool p.hasUser, .bool p.hasPass, .str p.user, .sl (p.pass.map u8), .bool p.present, .int .i64 p.code, .sl (p.subs.map encU), .sl (p.codes.map (V.int .i64))]] (([]:Own)++F) fun d G=>∃ v':Value,d = .ar v' ((twoM p.id++p.codes.map byteW)).length/\G = .arr 1 v' (((twoM p.id++p.codes.map byteW)).map u8)::F:=by
 intro hA
 obtain ⟨hp,hkk,hsub,hpl,hnum⟩:=hA
 refine DC.bodyS (n_:=73) (show Tryz.prog.funcs[151]? = some Tryz.f151 by kernel_rfl) rfl rfl (by rfl) ?_
 simp only [env0,List.cons_append,List.nil_append]
 have kw:=ksIs [0,1,2,3,5,7,9,10,14,24,30,36,37,38,39,48,57,58,59,60]
 have ow:=ownIs []
 have dw6:=drIs 6 [] [1,2,5]
 have s2:=hp.codes
 have hkd:True:=trivial
 repeat' (first
  | ((with_reducible refine DW.loopB 1 (X:=Nat) (fun x=>x<=0) (fun x=>[(1, .sp [.int .i64 p.kind, .bool p.dup, .bool p.retain, .int .i64 p.qos, .int .i64 p.id, .str p.topic, .sl (p.payload.map u8), .int .i64 p.level, .str p.client, .bool p.clean, .int .i64 p.keep, .bool p.hasWill, .str p.wtopic, .sl (p.wpay.map u8), .int .i64 p.wqos, .bool p.wretain, .bool p.hasUser, .bool p.hasPass, .str p.user, .sl (p.pass.map u8), .bool p.present, .int .i64 p.code, .sl (p.subs.map encU), .sl (p.codes.map (V.int .i64))]),(3, .ar v1 (twoM p.id).length),(36, .sl (p.subs.map encU)),(37, .int .i64 0),(38, .int .i64 x)]) (fun x=>.arr 1 v1 ((twoM p.id).map u8)::([]:Own)) (fun x=>0) (0) ?_ ?_ ?_);exact (Nat.zero_le _);(simp [Sub,get,keepL]<;>fail);(try simp only [List.cons_append,List.nil_append]);refine pl_ ?_;intro k hk;(try simp only [List.cons_append,List.nil_append]);(try simp only at hk))
  | ((with_reducible refine DW.loopB 3 (X:=Nat×Value×YSw) (fun x=>x.1<=p.codes.length/\x.2.2=twoM p.id++(p.codes.take x.1).map byteW/\x.2.2.length<=2+x.1) (fun x=>[(1, .sp [.int .i64 p.kind, .bool p.dup, .bool p.retain, .int .i64 p.qos, .int .i64 p.id, .str p.topic, .sl (p.payload.map u8), .int .i64 p.level, .str p.client, .bool p.clean, .int .i64 p.keep, .bool p.hasWill, .str p.wtopic, .sl (p.wpay.map u8), .int .i64 p.wqos, .bool p.wretain, .bool p.hasUser, .bool p.hasPass, .str p.user, .sl (p.pass.map u8), .bool p.present, .int .i64 p.code, .sl (p.subs.map encU), .sl (p.codes.map (V.int .i64))]),(3, .ar x.2.1 x.2.2.length),(57, .sl (p.codes.map (V.int .i64))),(58, .int .i64 p.codes.length),(59, .int .i64 x.1)]) (fun x=>.arr 1 x.2.1 (x.2.2.map u8)::([]:Own)) (fun x=>p.codes.length - x.1) ((0,v1,twoM p.id)) ?_ ?_ ?_);exact (⟨Nat.zero_le _,by simp,by simp [twoM_len]⟩);(simp [Sub,get,keepL]<;>fail);(try simp only [List.cons_append,List.nil_append]);refine pl_ ?_;intro ⟨i,z,m⟩ ⟨hi,hme,hmi⟩;(try simp only [List.cons_append,List.nil_append]);(try simp only at hi hme hmi))
  | refine g_ ?_
  | ((with_reducible refine And.intro ?_ ?_);(exact sv_wbA_dc))
  | (refine DW.cond (by rfl) ?_ ?_<;>(first | exact i0_ | (intro hb;(try simp only [↓reduceCtorEq,not_true_eq_false,not_false_eq_true,hbs,Int.reduceBEq,Int.reduceBNe,Int.reduceEq] at hb);(try refine s_wbA_dc ?_))))
  | ((with_reducible first | refine FVg_cases ?_ ?_ | refine FDg_cases ?_ ?_)<;>(intro hb;rw [hb];revert hb;(first | exact i0_ | (intro hb;(try simp only [↓reduceCtorEq,not_true_eq_false,not_false_eq_true,hbs,Int.reduceBEq,Int.reduceBNe,Int.reduceEq] at hb);(try refine s_wbA_dc ?_)))))
  | ((first | refine rn_ ?_ | refine dn_ ?_ | refine kn_ ?_)<;>(refine s_wbA_dc ?_))
  | ((refine dm_ ?_);(first | (refine v_ (wnum_dc _ _) ?_ (ha:=by exact sv_wbA_dc) (hk:=fun q=>q.1);refine s_wbA_dc ?_)))
  | ((refine von_ ?_);refine s_wbA_dc ?_)
  | (refine q_ (wnum_dc _ _) ?_ (ha:=by exact sv_wbA_dc) (hk:=fun q=>q.1);refine s_wbA_dc ?_)
  | (refine p_ (twoNW_dc _ _) ?_ (ha:=by exact sv_wbA_dc);rintro d H1 ⟨v1,rfl,rfl⟩<;>refine s_wbA_dc ?_)
  | ((refine on_ ?_);refine s_wbA_dc ?_)
  | refine f_ ?_
  | refine vm_ ?_
  | with_reducible intro b)
 all_goals first
 | ((have hii:i=p.codes.length:=by omega);(subst hii);(rw [List.take_of_length_le (Nat.le_refl _)] at hme);(rw [List.length_eq_zero_iff.1 hpl]);(simp only [List.map_nil,List.append_nil,List.length_nil,Nat.add_zero]);(rw [hme]);(refine ⟨_,_,le.of_eq ?_,⟨b,rfl,rfl⟩,?_⟩);(focus (congr 1;simp [twoM_len]));(exact sub_);done)
 | (refine ⟨(i+1,b,m++[byteW (p.codes.getD i default)]),⟨by (try simp only);omega,by (rw [codes_s (by omega),hme];simp),by ((try simp only [List.length_append,List.length_cons,List.length_nil,twoM_len,lumpM_len,List.length_map])<;>omega)⟩,by (try simp only);omega,by simp [Sub,get],?_⟩;((try dsimp only);(exact sub_));done)
 | (trace_state;fail)
end
theorem sv_wb2_dc {p:Prop} (h:p:=by first | exact sv | (refine ⟨?_,?_⟩<;>((try simp only [List.length_append,List.length_cons,List.length_nil,twoM_len,lumpM_len,List.length_map])<;>omega)) | (refine ⟨?_,?_,?_⟩<;>((try simp only [List.length_append,List.length_cons,List.length_nil,twoM_len,lumpM_len,List.length_map])<;>omega)) | (simp [u8,V.one,V.n];omega) | (simp [u8,V.one,V.n]<;>fail) | fail):p:=h
theorem s_wb2_dc {P Q:Prop} (q:Q) (h:Hid Q->P:=by (intro q;simp (maxSteps:=1000000) (disch:=omega) only [push_cast,↓reduceIte,reduceCtorEq,Nat.reduceAdd,Nat.reduceMul,Nat.reduceLT,Nat.reduceLeDiff,Nat.reduceEqDiff,Nat.reduceSub,Int.reduceToNat,Int.reduceLT,Int.reduceLE,Int.reduceAdd,Int.reduceSub,Int.reduceMul,Int.reduceNeg,Nat.reduceBEq,Int.reduceBEq,Int.reduceBNe,Nat.reduceBNe,Int.reduceEq,snocX2,snocX1,cells_u8Y,bytes_are,bytes_back,twoM_len,lumpM_len,hnum,hkd,hsub];exact q.1)):P:=h ⟨q⟩
section
attribute [local push_cast 2000] snocX2 snocX1 cells_u8Y bytes_are bytes_back twoM_len lumpM_len
theorem wb2_dc (p:Pk) (F:Own):(p.kind=2)->DC Tryz.prog 151 [.agg [.int .i64 p.kind, .bool p.dup, .bool p.retain, .int .i64 p.qos, .int .i64 p.id, .str p.topic, .sl (p.payload.map u8), .int .i64 p.level, .str p.client, .bool p.clean, .int .i64 p.keep, .bool p.hasWill, .str p.wtopic, .sl (p.wpay.map u8), .int .i64 p.wqos, .bool p.wretain, .bool p.hasUser, .bool p.hasPass, .str p.user, .sl (p.pass.map u8), .bool p.present, .int .i64 p.code, .sl (p.subs.map encU), .sl (p.codes.map (V.int .i64))]] (([]:Own)++F) fun d G=>d = .sl ([byteW (if p.present=true then 1 else 0),byteW p.code].map u8)/\G=[]++F:=by
 intro hA
 have hkd:=hA
 refine DC.bodyS (n_:=73) (show Tryz.prog.funcs[151]? = some Tryz.f151 by kernel_rfl) rfl rfl (by rfl) ?_
 simp only [env0,List.cons_append,List.nil_append]
 have kw:=ksIs [0,1,2,3,5,7,9,10,14,24,30,36,37,38,39,48,57,58,59,60]
 have ow:=ownIs []
 have dw6:=drIs 6 [] [1,2,5]
 have hnum:True:=trivial
 have hsub:True:=trivial
 repeat' (first
  | refine g_ ?_
  | ((with_reducible refine And.intro ?_ ?_);(exact sv_wb2_dc))
  | (refine DW.cond (by rfl) ?_ ?_<;>(first | exact i0_ | (intro hb;(try simp only [↓reduceCtorEq,not_true_eq_false,not_false_eq_true,hbs,Int.reduceBEq,Int.reduceBNe,Int.reduceEq] at hb);(try refine s_wb2_dc ?_))))
  | ((with_reducible first | refine FVg_cases ?_ ?_ | refine FDg_cases ?_ ?_)<;>(intro hb;rw [hb];revert hb;(first | exact i0_ | (intro hb;(try simp only [↓reduceCtorEq,not_true_eq_false,not_false_eq_true,hbs,Int.reduceBEq,Int.reduceBNe,Int.reduceEq] at hb);(try refine s_wb2_dc ?_)))))
  | ((first | refine rn_ ?_ | refine dn_ ?_ | refine kn_ ?_)<;>(refine s_wb2_dc ?_))
  | ((refine dm_ ?_);(first | (refine v_ (wflag_dc _ _ _) ?_ (ha:=by exact sv_wb2_dc) (hk:=fun q=>q.1);refine s_wb2_dc ?_)))
  | ((refine von_ ?_);refine s_wb2_dc ?_)
  | (refine q_ (wflag_dc _ _ _) ?_ (ha:=by exact sv_wb2_dc) (hk:=fun q=>q.1);refine s_wb2_dc ?_)
  | ((refine on_ ?_);refine s_wb2_dc ?_)
  | refine f_ ?_
  | refine vm_ ?_
  | with_reducible intro b)
 all_goals first
 | ((rw [show V.int .u8 (if p.present=true then 1 else 0)=u8 (byteW (if p.present=true then 1 else 0)) from u8_bW (by split<;>omega),u8_byteW]);(first | exact fin_ | refine finq_ ?_);done)
 | (trace_state;fail)
end
theorem num13_dc (F:Own):True->DC Tryz.prog 203 [.agg [.int .i64 13, .bool false, .bool false, .int .i64 0, .int .i64 0, .str [], .sl [], .int .i64 0, .str [], .bool false, .int .i64 0, .bool false, .str [], .sl [], .int .i64 0, .bool false, .bool false, .bool false, .str [], .sl [], .bool false, .int .i64 0, .sl [], .sl []]] (([]:Own)++F) fun d G=>d = .bool false/\G=[]++F:=fun _=>wnum_dc (ackP 13 0) F trivial
theorem wb13_dc  (F:Own):(True)->DC Tryz.prog 151 [.agg [.int .i64 13, .bool false, .bool false, .int .i64 0, .int .i64 0, .str [], .sl [], .int .i64 0, .str [], .bool false, .int .i64 0, .bool false, .str [], .sl [], .int .i64 0, .bool false, .bool false, .bool false, .str [], .sl [], .bool false, .int .i64 0, .sl [], .sl []]] (([]:Own)++F) fun d G=>d = .sl []/\G=[]++F:=by
 intro hA
 refine DC.bodyS (n_:=73) (show Tryz.prog.funcs[151]? = some Tryz.f151 by kernel_rfl) rfl rfl (by rfl) ?_
 simp only [env0,List.cons_append,List.nil_append]
 have kw:=ksIs [0,1,2,3,5,7,9,10,14,24,30,36,37,38,39,48,57,58,59,60]
 have ow:=ownIs []
 have dw6:=drIs 6 [] [1,2,5]
 repeat' (first
  | ((with_reducible refine DW.loopB 1 (X:=Nat) (fun x=>x<=0) (fun x=>[(1, .sp [.int .i64 13, .bool false, .bool false, .int .i64 0, .int .i64 0, .str [], .sl [], .int .i64 0, .str [], .bool false, .int .i64 0, .bool false, .str [], .sl [], .int .i64 0, .bool false, .bool false, .bool false, .str [], .sl [], .bool false, .int .i64 0, .sl [], .sl []]),(3, .gs (.slice none 0 0) []),(36, .sl []),(37, .int .i64 0),(38, .int .i64 x)]) (fun x=>([]:Own)) (fun x=>0) (0) ?_ ?_ ?_);exact (Nat.zero_le _);(simp [Sub,get,keepL]<;>fail);(try simp only [List.cons_append,List.nil_append]);refine pl_ ?_;intro k hk;(try simp only [List.cons_append,List.nil_append]);(try simp only at hk))
  | ((with_reducible refine DW.loopB 3 (X:=Nat) (fun x=>x<=0) (fun x=>[(1, .sp [.int .i64 13, .bool false, .bool false, .int .i64 0, .int .i64 0, .str [], .sl [], .int .i64 0, .str [], .bool false, .int .i64 0, .bool false, .str [], .sl [], .int .i64 0, .bool false, .bool false, .bool false, .str [], .sl [], .bool false, .int .i64 0, .sl [], .sl []]),(3, .gs (.slice none 0 0) []),(57, .sl []),(58, .int .i64 0),(59, .int .i64 x)]) (fun x=>([]:Own)) (fun x=>0) (0) ?_ ?_ ?_);exact (Nat.zero_le _);(simp [Sub,get,keepL]<;>fail);(try simp only [List.cons_append,List.nil_append]);refine pl_ ?_;intro k hk;(try simp only [List.cons_append,List.nil_append]);(try simp only at hk))
  | refine g_ ?_
  | ((with_reducible refine And.intro ?_ ?_);(exact sv))
  | (refine DW.cond (by rfl) ?_ ?_<;>(first | exact i0_ | (refine ic_ ?_;intro hb)))
  | ((with_reducible first | refine FVg_cases ?_ ?_ | refine FDg_cases ?_ ?_)<;>(intro hb;rw [hb];revert hb;(first | exact i0_ | (refine i_ ?_;intro hb))))
  | refine r_ ?_
  | refine d_ ?_
  | refine k_ ?_
  | ((refine dm_ ?_);(first | (refine v_ (num13_dc _) ?_)))
  | refine vo_ ?_
  | (refine q_ (num13_dc _) ?_)
  | refine o_ ?_
  | refine f_ ?_
  | refine vm_ ?_
  | with_reducible intro b)
 (first | exact fin_ | refine finq_ ?_)
 all_goals rfl
end
end Go.Proofs.YtgekknefphagbaaGreatDoor
