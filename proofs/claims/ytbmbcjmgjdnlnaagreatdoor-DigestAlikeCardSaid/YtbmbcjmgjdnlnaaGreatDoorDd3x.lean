/- A line, a cell laid down. -/
import Derived.Test.YtbmbcjmgjdnlnaaGreatDoorDd2x
import Derived.KernelRfl
namespace Go.Proofs.YtbmbcjmgjdnlnaaGreatDoor
open Go.RowKit
set_option linter.unusedSimpArgs false
set_option linter.unusedVariables false
set_option linter.unusedSectionVars false
set_option maxHeartbeats 4000000
set_option maxRecDepth 100000
section
theorem wnl_dc (T:TypeId) (bk off:Nat) (cs:List V) (v:Value) (l:List UInt8) (F:Own):(BAt T bk off cs v l.length/\l.length+1<=140737488355328)->DC Tryz.prog 147 [.raw (.pointer (some ⟨bk,off,none⟩)), .int .u8 10] ([.tb T bk cs, .ba 5 v l]++F) fun d G=>∃ v',d = .raw .nilIface/\G=[.tb T bk (lay2 bk off cs v' (l++[10]).length), .ba 5 v' (l++[10])]++F:=fun h=>by
 have:=wbyte_dc T bk off cs v l 10 F h
 exact this
def lineZ (ws:List (List UInt8)):List UInt8:=Lib.join ws [32]++[10]
attribute [local irreducible] DW SeqD DV DOp DC DVX lay2 selfP liesB
theorem sv_lineZ_dc {p:Prop} (h:p:=by first | exact sv | exact ⟨hB,by omega⟩ | exact ⟨by (rw [List.length_append];exact hB.next _ _),by (rw [List.length_append];omega)⟩ | fail):p:=h
theorem lineZ_dc (T:TypeId) (bk off:Nat) (cs:List V) (v:Value) (l:List UInt8) (ws:List (List UInt8)) (F:Own):(BAt T bk off cs v l.length/\ws.length<=1000000/\l.length+(Lib.join ws [32]).length+1<=140737488355328)->DC Tryz.prog 88 [.raw (.pointer (some ⟨bk,off,none⟩)), .sl (ws.map V.str)] ([.tb T bk cs, .ba 5 v l,loose]++F) fun d G=>∃ v',d = .tup []/\G=[.tb T bk (lay2 bk off cs v' (l++lineZ ws).length), .ba 5 v' (l++lineZ ws),loose]++F:=by
 intro hA
 obtain ⟨hB,hw,hm⟩:=hA
 refine DC.bodyS (n_:=10) (show Tryz.prog.funcs[88]? = some Tryz.f88 by kernel_rfl) rfl rfl (by rfl) ?_
 simp only [env0,List.cons_append,List.nil_append]
 have kw:=ksIs [0,1]
 have ow:=ownIs []
 repeat' (first
  | refine g_ ?_
  | ((with_reducible refine And.intro ?_ ?_);(exact sv_lineZ_dc))
  | (refine DW.cond (by rfl) ?_ ?_<;>(first | exact i0_ | (refine ic_ ?_;intro hb)))
  | ((with_reducible refine FVg_cases ?_ ?_)<;>(intro hb;rw [hb];revert hb;(first | exact i0_ | (refine i_ ?_;intro hb))))
  | refine r_ ?_
  | refine k_ ?_
  | (refine q_ (join_dc _ _ _) ?_ (ha:=by exact sv_lineZ_dc))
  | (refine p_ (wstr_dc _ _ _ _ _ _ _ _) ?_ (ha:=by exact sv_lineZ_dc);rintro d H1 ⟨v1,rfl,rfl⟩<;>refine s_ ?_)
  | (refine p_ (wnl_dc _ _ _ _ _ _ _) ?_ (ha:=by exact sv_lineZ_dc);rintro d H1 ⟨v2,rfl,rfl⟩<;>refine s_ ?_)
  | refine o_ ?_
  | refine f_ ?_
  | with_reducible intro b)
 all_goals first
 | (refine ⟨_,_,le.rfl_,⟨v2,rfl,rfl⟩,?_⟩;(rw [lay2_lay2 hB.lt];simp only [lineZ,List.append_assoc,List.length_append,List.length_cons,List.length_nil,Nat.add_assoc,Nat.zero_add]);(exact sub_);done)
 | (trace_state;fail)
theorem line1_dc (T:TypeId) (bk off:Nat) (cs:List V) (v:Value) (l:List UInt8) (y0:List UInt8) (F:Own):(BAt T bk off cs v l.length/\l.length+(Lib.join [y0] [32]).length+1<=140737488355328)->DC Tryz.prog 88 [.raw (.pointer (some ⟨bk,off,none⟩)), .sl [.str y0]] ([.tb T bk cs, .ba 5 v l,loose]++F) fun d G=>∃ v',d = .tup []/\G=[.tb T bk (lay2 bk off cs v' (l++lineZ [y0]).length), .ba 5 v' (l++lineZ [y0]),loose]++F:=fun h =>
 lineZ_dc T bk off cs v l [y0] F ⟨h.1,by simp,h.2⟩
theorem line2_dc (T:TypeId) (bk off:Nat) (cs:List V) (v:Value) (l:List UInt8) (y0 y1:List UInt8) (F:Own):(BAt T bk off cs v l.length/\l.length+(Lib.join [y0,y1] [32]).length+1<=140737488355328)->DC Tryz.prog 88 [.raw (.pointer (some ⟨bk,off,none⟩)), .sl [.str y0, .str y1]] ([.tb T bk cs, .ba 5 v l,loose]++F) fun d G=>∃ v',d = .tup []/\G=[.tb T bk (lay2 bk off cs v' (l++lineZ [y0,y1]).length), .ba 5 v' (l++lineZ [y0,y1]),loose]++F:=fun h =>
 lineZ_dc T bk off cs v l [y0,y1] F ⟨h.1,by simp,h.2⟩
theorem line3_dc (T:TypeId) (bk off:Nat) (cs:List V) (v:Value) (l:List UInt8) (y0 y1 y2:List UInt8) (F:Own):(BAt T bk off cs v l.length/\l.length+(Lib.join [y0,y1,y2] [32]).length+1<=140737488355328)->DC Tryz.prog 88 [.raw (.pointer (some ⟨bk,off,none⟩)), .sl [.str y0, .str y1, .str y2]] ([.tb T bk cs, .ba 5 v l,loose]++F) fun d G=>∃ v',d = .tup []/\G=[.tb T bk (lay2 bk off cs v' (l++lineZ [y0,y1,y2]).length), .ba 5 v' (l++lineZ [y0,y1,y2]),loose]++F:=fun h =>
 lineZ_dc T bk off cs v l [y0,y1,y2] F ⟨h.1,by simp,h.2⟩
theorem line8_dc (T:TypeId) (bk off:Nat) (cs:List V) (v:Value) (l:List UInt8) (y0 y1 y2 y3 y4 y5 y6 y7:List UInt8) (F:Own):(BAt T bk off cs v l.length/\l.length+(Lib.join [y0,y1,y2,y3,y4,y5,y6,y7] [32]).length+1<=140737488355328)->DC Tryz.prog 88 [.raw (.pointer (some ⟨bk,off,none⟩)), .sl [.str y0, .str y1, .str y2, .str y3, .str y4, .str y5, .str y6, .str y7]] ([.tb T bk cs, .ba 5 v l,loose]++F) fun d G=>∃ v',d = .tup []/\G=[.tb T bk (lay2 bk off cs v' (l++lineZ [y0,y1,y2,y3,y4,y5,y6,y7]).length), .ba 5 v' (l++lineZ [y0,y1,y2,y3,y4,y5,y6,y7]),loose]++F:=fun h =>
 lineZ_dc T bk off cs v l [y0,y1,y2,y3,y4,y5,y6,y7] F ⟨h.1,by simp,h.2⟩
def cellP (c:TCell):List UInt8:=lineZ [if c.gone=true then [103] else [99],dotP c.dot.node c.dot.epoch c.dot.n,Lib.itoa c.stamp.l,Lib.itoa c.stamp.c,Lib.itoa c.stamp.node,Lib.itoa c.qos,hexM c.topic,hexM c.payload]
theorem joinB:∀ (ws:List (List UInt8)) (m:Nat),(∀ x∈ws,x.length<=m)->(Lib.join ws [32]).length<=(m+1) * ws.length
 | [],m,_=>by simp [Lib.join,List.intercalate]
 | [x],m,h=>by have:=h x (by simp);rw [Lib.join_one];simp;omega
 | x::y::r,m,h=>by
  have h1:=h x (by simp)
  have ih:=joinB (y::r) m fun z hz=>h z (List.mem_cons_of_mem _ hz)
  have e:Lib.join (x::y::r) [32]=x++[32]++Lib.join (y::r) [32]:=by rw [Lib.join_cons,Lib.join_cons];simp [Lib.joinTail]
  rw [e]
  simp only [List.length_append,List.length_cons,List.length_nil] at ih ⊢
  rw [show (m+1) * (r.length+1+1)=(m+1) * (r.length+1)+(m+1) by rw [Nat.mul_add];omega]
  omega
theorem sv_dcell_dc {p:Prop} (h:p:=by first | exact sv | exact ⟨hB,hj _ (by simp)⟩ | exact ⟨h1,h2,h3⟩ | fail):p:=h
section
attribute [local push_cast 2000] bytes_are bytes_back
theorem dcell_dc (T:TypeId) (bk off:Nat) (cs:List V) (v:Value) (l:List UInt8) (T5:TypeId) (fr:Nat×Nat) (a1 a2 a3 a4 a5 a6:Int) (a7 a8:List UInt8) (a9:Int) (a10:Bool) (F:Own):(BAt T bk off cs v l.length/\l.length<=100000000000/\(i64b a1/\i64b a2/\i64b a3)/\(i64b a4/\i64b a5/\i64b a6)/\(a7.length<=2000/\a8.length<=2000)/\i64b a9)->DC Tryz.prog 91 [.raw (.pointer (some ⟨bk,off,none⟩)), .agg [.int .i64 a1, .int .i64 a2, .int .i64 a3, .int .i64 a4, .int .i64 a5, .int .i64 a6, .str a7, .sl (a8.map u8), .int .i64 a9, .bool a10]] ([.tb T bk cs, .ba 5 v l,loose,knP T5 fr]++F) fun d G=>∃ v',d = .tup []/\G=[.tb T bk (lay2 bk off cs v' (l++cellP (⟨⟨a1,a2,a3⟩,⟨a4,a5,a6⟩,a7,a8,a9,a10⟩:TCell)).length), .ba 5 v' (l++cellP (⟨⟨a1,a2,a3⟩,⟨a4,a5,a6⟩,a7,a8,a9,a10⟩:TCell)),loose,knP T5 fr]++F:=by
 intro hA
 obtain ⟨hB,hm,⟨h1,h2,h3⟩,⟨h4,h5,h6⟩,⟨h7,h8⟩,h9⟩:=hA
 refine DC.bodyS (n_:=36) (show Tryz.prog.funcs[91]? = some Tryz.f91 by kernel_rfl) rfl rfl (by rfl) ?_
 simp only [env0,List.cons_append,List.nil_append]
 have kw:=ksIs [0,1,3,4,6]
 have ow:=ownIs []
 have dw4:=drIs 4 [28] [3,4,7,8,11,12,15,16,18,19,21,22,24,26]
 have hj:∀ g:List UInt8,g.length<=1->l.length+(Lib.join [g,dotP a1 a2 a3,Lib.itoa a4,Lib.itoa a5,Lib.itoa a6,Lib.itoa a9,hexM a7,hexM a8] [32]).length+1<=140737488355328:=fun g hg=>by
  have:=joinB [g,dotP a1 a2 a3,Lib.itoa a4,Lib.itoa a5,Lib.itoa a6,Lib.itoa a9,hexM a7,hexM a8] 5000 (by
   intro x hx
   simp only [List.mem_cons,List.not_mem_nil,or_false] at hx
   have:=dotP_len h1 h2 h3;have:=itoa_len h4;have:=itoa_len h5;have:=itoa_len h6;have:=itoa_len h9;have:=hexM_len a7;have:=hexM_len a8
   rcases hx with rfl | rfl | rfl | rfl | rfl | rfl | rfl | rfl<;>omega)
  simp only [List.length_cons,List.length_nil] at this
  omega
 repeat' (first
  | ((with_reducible apply DW.frzB 2 3);(focus (exact rfl));(repeat (with_reducible first | refine Out.here ?_ | refine Out.next ?_));simp only [put_cons,put_nil,Nat.reduceEqDiff,↓reduceIte,if_true,if_false,reduceCtorEq])
  | refine g_ ?_
  | ((with_reducible refine And.intro ?_ ?_);(exact sv_dcell_dc))
  | (refine DW.cond (by rfl) ?_ ?_<;>(first | exact i0_ | (refine ic_ ?_;intro hb)))
  | ((with_reducible first | refine FVg_cases ?_ ?_ | refine FDg_cases ?_ ?_)<;>(intro hb;rw [hb];revert hb;(first | exact i0_ | (refine i_ ?_;intro hb))))
  | refine r_ ?_
  | refine d_ ?_
  | refine k_ ?_
  | ((refine dm_ ?_);(first | ((first | refine v_ (ddot_dc _ _ _ _ _ _) ?_ (ha:=by exact sv_dcell_dc) | refine v_ (digl_dc _ _ _ _) ?_ (ha:=by exact sv_dcell_dc) | refine v_ (digi_dc _ _ _ _) ?_ (ha:=by exact sv_dcell_dc) | refine v_ (dhex_dc _ _) ?_ (ha:=by exact sv_dcell_dc)))))
  | refine vo_ ?_
  | ((first | refine q_ (ddot_dc _ _ _ _ _ _) ?_ (ha:=by exact sv_dcell_dc) | refine q_ (digl_dc _ _ _ _) ?_ (ha:=by exact sv_dcell_dc) | refine q_ (digi_dc _ _ _ _) ?_ (ha:=by exact sv_dcell_dc) | refine q_ (dhex_dc _ _) ?_ (ha:=by exact sv_dcell_dc)))
  | (refine p_ (line8_dc _ _ _ _ _ _ _ _ _ _ _ _ _ _ _) ?_ (ha:=by exact sv_dcell_dc);rintro d H1 ⟨v1,rfl,rfl⟩<;>refine s_ ?_)
  | refine o_ ?_
  | refine f_ ?_
  | refine vm_ ?_
  | with_reducible intro b)
 all_goals first
 | (refine ⟨_,_,le.rfl_,⟨v1,rfl,rfl⟩,?_⟩;(simp only [cellP,hb,if_true,if_false,Bool.false_eq_true]);(exact sub_);done)
 | (refine ⟨_,_,le.rfl_,⟨v1,rfl,rfl⟩,?_⟩;(simp only [cellP,if_true,if_false,Bool.false_eq_true]);(exact sub_);done)
 | (trace_state;fail)
end
end
end Go.Proofs.YtbmbcjmgjdnlnaaGreatDoor
