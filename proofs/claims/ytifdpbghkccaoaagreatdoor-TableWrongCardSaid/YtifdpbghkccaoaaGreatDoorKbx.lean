/- What is shown of a table without routes and cells. -/
import Derived.Test.YtifdpbghkccaoaaGreatDoorDd2x
import Derived.KernelRfl
import Derived.Test.YtifdpbghkccaoaaGreatDoorEqx
import Derived.Lib.Overlaps
namespace Go.Proofs.YtifdpbghkccaoaaGreatDoor
open Go.RowKit
set_option linter.unusedSimpArgs false
set_option linter.unusedVariables false
set_option linter.unusedSectionVars false
set_option maxHeartbeats 4000000
set_option maxRecDepth 100000
section
theorem tab0 (l:List UInt8):(((0:UInt8)::l).getD 0 0)=0:=rfl
theorem joinN_dc (F:Own):True->DC Tryz.prog 65 [.sl [], .str [10]] ([loose]++F) fun d G=>d = .str []/\G=[loose]++F:=fun _=>join_dc [] [10] F ⟨by decide,by decide⟩
attribute [local irreducible] DW SeqD DV DOp DC DVX
section
attribute [local push_cast 2000] List.append_eq List.cons_append List.getD_cons_zero u8 tab0
theorem len64_dc  (F:Own):(True)->DC Tryz.prog 136 [.int .u64 0] (([]:Own)++F) fun d G=>∃ n:Int,(0<=n/\n<=64)/\d = .int .i64 n/\G=[]++F:=by
 intro hA
 refine DC.bodyS (n_:=25) (show Tryz.prog.funcs[136]? = some Tryz.f136 by kernel_rfl) rfl rfl (by rfl) ?_
 simp only [env0,List.cons_append,List.nil_append]
 have kw:=ksIs [0,2,4,8,14]
 have ow:=ownIs []
 repeat' (first
  | refine g_ ?_
  | ((with_reducible refine And.intro ?_ ?_);(exact sv))
  | (refine DW.cond (by rfl) ?_ ?_<;>(first | exact i0_ | (refine ic_ ?_;intro hb)))
  | ((with_reducible refine FVg_cases ?_ ?_)<;>(intro hb;rw [hb];revert hb;(first | exact i0_ | (refine i_ ?_;intro hb))))
  | refine r_ ?_
  | refine k_ ?_
  | refine o_ ?_
  | refine f_ ?_
  | with_reducible intro b)
 all_goals first
 | (refine ⟨_,_,le.rfl_,⟨_,⟨by decide,by decide⟩,rfl,rfl⟩,?_⟩;(exact sub_);done)
 | (trace_state;fail)
end
theorem len0_dc  (F:Own):(True)->DC Tryz.prog 88 [.int .u64 0] (([]:Own)++F) fun d G=>∃ n:Int,(0<=n/\n<=64)/\d = .int .i64 n/\G=[]++F:=by
 intro hA
 refine DC.bodyS (n_:=8) (show Tryz.prog.funcs[88]? = some Tryz.f88 by kernel_rfl) rfl rfl (by rfl) ?_
 simp only [env0,List.cons_append,List.nil_append]
 have kw:=ksIs [0,2]
 have ow:=ownIs []
 repeat' (first
  | refine g_ ?_
  | ((with_reducible refine And.intro ?_ ?_);(exact sv))
  | (refine DW.cond (by rfl) ?_ ?_<;>(first | exact i0_ | (refine ic_ ?_;intro hb)))
  | ((with_reducible refine FVg_cases ?_ ?_)<;>(intro hb;rw [hb];revert hb;(first | exact i0_ | (refine i_ ?_;intro hb))))
  | refine r_ ?_
  | refine k_ ?_
  | (refine p_ (len64_dc _) ?_;rintro d H1 ⟨n,hn,rfl,rfl⟩<;>refine s_ ?_)
  | refine o_ ?_
  | refine f_ ?_
  | with_reducible intro b)
 all_goals first
 | (refine ⟨_,_,le.rfl_,⟨_,hn,rfl,rfl⟩,?_⟩;(exact sub_);done)
 | (trace_state;fail)
theorem insN_dc  (F:Own):(True)->DC Tryz.prog 146 [.gs (.slice none 0 0) [], .int .i64 0, .int .i64 0] (([]:Own)++F) fun d G=>d = .tup []/\G=[]++F:=by
 intro hA
 refine DC.bodyS (n_:=49) (show Tryz.prog.funcs[146]? = some Tryz.f146 by kernel_rfl) rfl rfl (by rfl) ?_
 simp only [env0,List.cons_append,List.nil_append]
 have kw:=ksIs [0,1,2,6,7,12,30]
 have ow:=ownIs []
 have dw4:=drIs 4 [] [7,12,13]
 have dw6:=drIs 6 [15,17] [9,13]
 repeat' (first
  | ((with_reducible refine DW.loopB 0 (X:=Nat) (fun x=>x=0) (fun x=>[(0, .gs (.slice none 0 0) []),(1, .int .i64 0),(2, .int .i64 0),(6, .int .i64 1)]) (fun x=>([]:Own)) (fun x=>x) (0) ?_ ?_ ?_);exact (rfl);(simp [Sub,get,keepL]<;>fail);(try simp only [List.cons_append,List.nil_append]);refine pl_ ?_;intro k hk;(try simp only [List.cons_append,List.nil_append]))
  | refine g_ ?_
  | ((with_reducible refine And.intro ?_ ?_);(exact sv))
  | (refine DW.cond (by rfl) ?_ ?_<;>(first | exact i0_ | (refine ic_ ?_;intro hb)))
  | ((with_reducible first | refine FVg_cases ?_ ?_ | refine FDg_cases ?_ ?_)<;>(intro hb;rw [hb];revert hb;(first | exact i0_ | (refine i_ ?_;intro hb))))
  | refine r_ ?_
  | refine d_ ?_
  | refine k_ ?_
  | refine vo_ ?_
  | refine o_ ?_
  | refine f_ ?_
  | refine vm_ ?_
  | with_reducible intro b)
 all_goals first
 | ((first | exact fin_ | refine finq_ ?_);done)
 | (exfalso;omega)
 | (trace_state;fail)
section
attribute [local push_cast 2000] decide_true
theorem pdqN_dc (c:Int) (F:Own):(True)->DC Tryz.prog 111 [.gs (.slice none 0 0) [], .int .i64 0, .int .i64 0, .int .i64 c] (([]:Own)++F) fun d G=>d = .tup []/\G=[]++F:=by
 intro hA
 refine DC.bodyS (n_:=134) (show Tryz.prog.funcs[111]? = some Tryz.f111 by kernel_rfl) rfl rfl (by rfl) ?_
 simp only [env0,List.cons_append,List.nil_append]
 have kw:=ksIs [0,1,2,3,8,9,10,11,12,13,14,15,16,17,18,23,29,35,50,68,72,87,113]
 have ow:=ownIs []
 have dw17:=drIs 17 [] [7,11,12]
 repeat' (first
  | ((with_reducible refine DW.loopB 0 (X:=Nat) (fun x=>x=0) (fun x=>[(0, .gs (.slice none 0 0) []),(1, .int .i64 0),(2, .int .i64 0),(3, .int .i64 c),(8, .bool true),(9, .bool true)]) (fun x=>([]:Own)) (fun x=>x) (0) ?_ ?_ ?_);exact (rfl);(simp [Sub,get,keepL]<;>fail);(try simp only [List.cons_append,List.nil_append]);refine pl_ ?_;intro k hk;(try simp only [List.cons_append,List.nil_append]))
  | refine g_ ?_
  | ((with_reducible refine And.intro ?_ ?_);(exact sv))
  | (refine DW.cond (by rfl) ?_ ?_<;>(first | exact i0_ | (refine ic_ ?_;intro hb)))
  | ((with_reducible first | refine FVg_cases ?_ ?_ | refine FDg_cases ?_ ?_)<;>(intro hb;rw [hb];revert hb;(first | exact i0_ | (refine i_ ?_;intro hb))))
  | refine r_ ?_
  | refine d_ ?_
  | refine k_ ?_
  | ((refine dm_ ?_);(first | (refine v_ (insN_dc _) ?_)))
  | refine vo_ ?_
  | (refine q_ (insN_dc _) ?_)
  | refine o_ ?_
  | refine f_ ?_
  | refine vm_ ?_
  | with_reducible intro b)
 all_goals first
 | ((first | exact fin_ | refine finq_ ?_);done)
 | (exfalso;omega)
 | (trace_state;fail)
end
theorem sortN_dc  (F:Own):(True)->DC Tryz.prog 64 [.gs (.slice none 0 0) []] (([]:Own)++F) fun d G=>d = .tup []/\G=[]++F:=by
 intro hA
 refine DC.bodyS (n_:=11) (show Tryz.prog.funcs[64]? = some Tryz.f64 by kernel_rfl) rfl rfl (by rfl) ?_
 simp only [env0,List.cons_append,List.nil_append]
 have kw:=ksIs [0,2]
 have ow:=ownIs []
 repeat' (first
  | refine g_ ?_
  | ((with_reducible refine And.intro ?_ ?_);(exact sv))
  | (refine DW.cond (by rfl) ?_ ?_<;>(first | exact i0_ | (refine ic_ ?_;intro hb)))
  | ((with_reducible refine FVg_cases ?_ ?_)<;>(intro hb;rw [hb];revert hb;(first | exact i0_ | (refine i_ ?_;intro hb))))
  | refine r_ ?_
  | refine k_ ?_
  | (refine p_ (len0_dc _) ?_;rintro d H1 ⟨n,hn,rfl,rfl⟩<;>refine s_ ?_)
  | (refine q_ (pdqN_dc _ _) ?_)
  | refine o_ ?_
  | refine f_ ?_
  | with_reducible intro b)
 all_goals first
 | ((first | exact fin_ | refine finq_ ?_);done)
 | (trace_state;fail)
section
attribute [local push_cast 2000] decide_true
theorem compN_dc  (F:Own):(True)->DC Tryz.prog 66 [.gs (.slice none 0 0) []] (([]:Own)++F) fun d G=>d = .gs (.slice none 0 0) []/\G=[]++F:=by
 intro hA
 refine DC.bodyS (n_:=61) (show Tryz.prog.funcs[66]? = some Tryz.f66 by kernel_rfl) rfl rfl (by rfl) ?_
 simp only [env0,List.cons_append,List.nil_append]
 have kw:=ksIs [0,2,3,4,5,8,13,25,32,44]
 have ow:=ownIs []
 have dw6:=drIs 6 [] [3,8]
 have dw11:=drIs 11 [] [3,8]
 repeat' (first
  | refine g_ ?_
  | ((with_reducible refine And.intro ?_ ?_);(exact sv))
  | (refine DW.cond (by rfl) ?_ ?_<;>(first | exact i0_ | (refine ic_ ?_;intro hb)))
  | ((with_reducible first | refine FVg_cases ?_ ?_ | refine FDg_cases ?_ ?_)<;>(intro hb;rw [hb];revert hb;(first | exact i0_ | (refine i_ ?_;intro hb))))
  | refine r_ ?_
  | refine d_ ?_
  | refine k_ ?_
  | refine vo_ ?_
  | refine o_ ?_
  | refine f_ ?_
  | refine vm_ ?_
  | with_reducible intro b)
 all_goals first
 | ((first | exact fin_ | refine finq_ ?_);done)
 | (trace_state;fail)
end
theorem pshown_dc (t:TTable) (F:Own):(t.routes.length=0/\t.cells.length=0)->DC Tryz.prog 24 [.agg [.sl (t.seen.map encDot), .sl (t.fences.map encFence), .sl (t.routes.map encRoute), .sl (t.cells.map encCell)]] ([loose]++F) fun d G=>d = .str []/\G=[loose]++F:=by
 intro hA
 obtain ⟨hr,hc⟩:=hA
 refine DC.bodyS (n_:=62) (show Tryz.prog.funcs[24]? = some Tryz.f24 by kernel_rfl) rfl rfl (by rfl) ?_
 simp only [env0,List.cons_append,List.nil_append]
 have kw:=ksIs [0,1,2,3,5,6,8,9,11,12,13,14,32,33,34,35,39]
 have ow:=ownIs []
 repeat' (first
  | ((with_reducible refine DW.loopB 0 (X:=Nat) (fun x=>x<=0) (fun x=>[(1, .sp [.sl (t.seen.map encDot), .sl (t.fences.map encFence), .sl (t.routes.map encRoute), .sl (t.cells.map encCell)]),(3, .gs (.slice none 0 0) []),(11, .sl (t.routes.map encRoute)),(12, .int .i64 t.routes.length),(13, .int .i64 x)]) (fun x=>[loose]) (fun x=>0 - x) (0) ?_ ?_ ?_);exact (Nat.zero_le _);(simp [Sub,get,keepL]<;>fail);(try simp only [List.cons_append,List.nil_append]);refine pl_ ?_;intro k hk;(try simp only [List.cons_append,List.nil_append]))
  | ((with_reducible refine DW.loopB 2 (X:=Nat) (fun x=>x<=0) (fun x=>[(3, .gs (.slice none 0 0) []),(32, .sl (t.cells.map encCell)),(33, .int .i64 t.cells.length),(34, .int .i64 x)]) (fun x=>[loose]) (fun x=>0 - x) (0) ?_ ?_ ?_);exact (Nat.zero_le _);(simp [Sub,get,keepL]<;>fail);(try simp only [List.cons_append,List.nil_append]);refine pl_ ?_;intro k2 hk2;(try simp only [List.cons_append,List.nil_append]))
  | refine g_ ?_
  | ((with_reducible refine And.intro ?_ ?_);(exact sv))
  | (refine DW.cond (by rfl) ?_ ?_<;>(first | exact i0_ | (refine ic_ ?_;intro hb)))
  | ((with_reducible refine FVg_cases ?_ ?_)<;>(intro hb;rw [hb];revert hb;(first | exact i0_ | (refine i_ ?_;intro hb))))
  | refine r_ ?_
  | refine k_ ?_
  | ((first | refine q_ (sortN_dc _) ?_ | refine q_ (compN_dc _) ?_ | refine q_ (joinN_dc _) ?_))
  | refine o_ ?_
  | refine f_ ?_
  | with_reducible intro b)
 all_goals first
 | (exfalso;omega)
 | ((first | exact fin_ | refine finq_ ?_);done)
 | (trace_state;fail)
end
section
abbrev VS:=List V
theorem itoa_dc (T:TypeId) (fr:Nat×Nat) (n:Int) (F:Own):(i64b n)->DC Tryz.prog 109 [.int .i64 n] ([knP T fr]++F) fun d G=>d = .str (Lib.itoa n)/\G=[knP T fr]++F:=fun h =>
 DC.itoa layIt (by kernel_rfl) (by kernel_rfl) T fr n F h
theorem wsp_dc (T:TypeId) (bk off:Nat) (cs:List V) (v:Value) (l:List UInt8) (F:Own):(BAt T bk off cs v l.length/\l.length+1<=140737488355328)->DC Tryz.prog 108 [.raw (.pointer (some ⟨bk,off,none⟩)), .int .u8 32] ([.tb T bk cs, .ba 5 v l]++F) fun d G=>∃ v',d = .raw .nilIface/\G=[.tb T bk (lay2 bk off cs v' (l++[32]).length), .ba 5 v' (l++[32])]++F:=fun h=>wbyte_dc T bk off cs v l 32 F h
def numsT (ns:List Int):List UInt8:=ns.flatMap fun n=>32::Lib.itoa n
theorem numsT_s {ns:List Int} {k:Nat} (h:k<ns.length):numsT (ns.take (k+1))=numsT (ns.take k)++[32]++Lib.itoa (ns.getD k default):=by
 have e:ns.take (k+1)=ns.take k++[ns.getD k default]:=by rw [List.take_add_one];simp [List.getD_eq_getElem?_getD,h]
 rw [e];simp [numsT]
theorem numsT_s2 {ns:List Int} {k:Nat} (h:k<ns.length):numsT (ns.take (k+1))=numsT (ns.take k)++32::Lib.itoa (ns.getD k default):=by rw [numsT_s h];simp
theorem numsT_len:∀ ns:List Int,(∀ n∈ns,i64b n)->(numsT ns).length<=22 * ns.length
 | [],_=>Nat.zero_le _
 | n::ns,h=>by
  have h1:=itoa_len (h n (List.mem_cons_self ..))
  have h2:=numsT_len ns fun x hx=>h x (List.mem_cons_of_mem _ hx)
  simp only [numsT,List.flatMap_cons,List.length_append,List.length_cons] at *
  omega
theorem i64_at {ns:List Int} (h:∀ n∈ns,i64b n) {k:Nat} (hk:k<ns.length):i64b (ns.getD k default):=by
 rw [List.getD_eq_getElem?_getD,List.getElem?_eq_getElem hk];exact h _ (List.getElem_mem hk)
theorem numsT_0 (ns:List Int):numsT (ns.take 0)=[]:=rfl
attribute [local irreducible] DW SeqD DV DOp DC DVX lay2 selfP liesB numsT Lib.itoa
theorem sv_tnums_dc {p:Prop} (h:p:=by first | exact sv | exact ⟨hB1,by omega⟩ | exact i64_at hi (by omega) | exact ⟨by (simp only [List.length_append,List.length_cons,List.length_nil,Nat.zero_add];exact hB1.next _ _),by (simp only [List.length_append,List.length_cons,List.length_nil];have:=hli (by omega);omega)⟩ | fail):p:=h
theorem tnums_dc (T:TypeId) (bk off:Nat) (cs:List V) (v:Value) (l:List UInt8) (ns:List Int) (T5:TypeId) (fr:Nat×Nat) (F:Own):(BAt T bk off cs v l.length/\(∀ n∈ns,i64b n)/\l.length<=1000000/\ns.length<=1000000)->DC Tryz.prog 61 [.raw (.pointer (some ⟨bk,off,none⟩)), .sl (ns.map (V.int .i64))] ([.tb T bk cs, .ba 5 v l,knP T5 fr]++F) fun d G=>∃ v' cs',BAt T bk off cs' v' (l++numsT ns).length/\d = .tup []/\G=[.tb T bk cs', .ba 5 v' (l++numsT ns),knP T5 fr]++F:=by
 intro hA
 obtain ⟨hB,hi,hl,hn⟩:=hA
 refine DC.bodyS (n_:=19) (show Tryz.prog.funcs[61]? = some Tryz.f61 by kernel_rfl) rfl rfl (by rfl) ?_
 simp only [env0,numsT_0,List.append_nil,List.cons_append,List.nil_append]
 have kw:=ksIs [0,1,5,6,7,8,9]
 have ow:=ownIs []
 repeat' (first
  | ((with_reducible refine DW.loopB 0 (X:=Nat×Value×VS) (fun x=>x.1<=ns.length/\BAt T bk off x.2.2 x.2.1 (l++numsT (ns.take x.1)).length) (fun x=>[(0, .raw (.pointer (some ⟨bk,off,none⟩))),(6, .sl (ns.map (V.int .i64))),(7, .int .i64 ns.length),(8, .int .i64 x.1)]) (fun x=>[.tb T bk x.2.2, .ba 5 x.2.1 (l++numsT (ns.take x.1)),knP T5 fr]) (fun x=>ns.length - x.1) ((0,v,cs)) ?_ ?_ ?_);exact (⟨Nat.zero_le _,by (simp only [numsT_0,List.append_nil];exact hB)⟩);(simp [Sub,get,keepL]<;>fail);(try simp only [numsT_0,List.append_nil,List.cons_append,List.nil_append]);refine pl_ ?_;intro ⟨k,v1,c1⟩ ⟨hk,hB1⟩;(try simp only [numsT_0,List.append_nil,List.cons_append,List.nil_append]);(try simp only at hk hB1);have hln:=numsT_len (ns.take k) (fun n hn=>hi n (List.mem_of_mem_take hn));have hlt:=List.length_take_le k ns;have hli:∀ h:k<ns.length,(Lib.itoa (ns.getD k default)).length<=21:=fun h=>itoa_len (i64_at hi h);have hll:(l++numsT (ns.take k)).length=l.length+(numsT (ns.take k)).length:=List.length_append)
  | refine g_ ?_
  | ((with_reducible refine And.intro ?_ ?_);(exact sv_tnums_dc))
  | (refine DW.cond (by rfl) ?_ ?_<;>(first | exact i0_ | (refine ic_ ?_;intro hb)))
  | ((with_reducible refine FVg_cases ?_ ?_)<;>(intro hb;rw [hb];revert hb;(first | exact i0_ | (refine i_ ?_;intro hb))))
  | refine r_ ?_
  | refine k_ ?_
  | (refine p_ (wsp_dc _ _ _ _ _ _ _) ?_ (ha:=by exact sv_tnums_dc);rintro d H1 ⟨w1,rfl,rfl⟩<;>refine s_ ?_)
  | (refine q_ (itoa_dc _ _ _ _) ?_ (ha:=by exact sv_tnums_dc))
  | (refine p_ (wstr_dc _ _ _ _ _ _ _ _) ?_ (ha:=by exact sv_tnums_dc);rintro d H1 ⟨w2,rfl,rfl⟩<;>refine s_ ?_)
  | refine o_ ?_
  | refine f_ ?_
  | with_reducible intro b)
 all_goals first
 | ((have hkl:k=ns.length:=by omega)
    subst hkl
    rw [List.take_length] at hB1 ⊢
    refine ⟨_,_,le.rfl_,⟨v1,c1,by simpa using hB1,rfl,rfl⟩,?_⟩;(exact sub_);done)
 | ((have e:=numsT_s2 (show k<ns.length by omega))
    refine ⟨(k+1,w2,lay2 bk off (lay2 bk off c1 w1 (l.length+((numsT (List.take k ns)).length+1))) w2 (l.length+((numsT (List.take k ns)).length+((Lib.itoa (ns.getD k default)).length+1)))),⟨by (try simp only);omega,?_⟩,by (try simp only);omega,by simp [Sub,get],?_⟩;((try dsimp only);rw [e];simp only [List.length_append,List.length_cons];exact (hB1.next _ _).next _ _);((try dsimp only);rw [e];(exact sub_));done)
 | (trace_state;fail)
end
section
section
variable {P:Program} {o:Oper} {f:Operand->V} {H:Own} {K:V->Own->Prop}
def AppZ (P:Program) (sT xT:TypeId) (n:Nat) (m:Int):Prop:=(ty P sT).kind=4/\(ty P (ty P sT).elem).kind≠0/\(ty P (ty P sT).elem).kind≠11/\(ty P xT).ik=some .i64/\0<(ty P (ty P sT).elem).size /\
 (ty P (ty P sT).elem).zero.length=(ty P (ty P sT).elem).size/\(n+m.toNat) * (ty P (ty P sT).elem).bytes<=140737488355328/\n+m.toNat<=4611686018427387904
theorem DOp.appsubz_ {s x:Operand} {sT xT:TypeId} {v:Value} {sz lo n:Nat} {kk:IntKind} {m:Int} (hop:o.op = .call { callee:=.builtin .append,args:=#[s,x],argTypes:=#[sT,xT] }) (hfs:f s = .sub sz v lo n) (hfx:f x = .int kk m)
  (h:OnA H v fun z cs _=>(z=sz/\sz=(ty P (ty P sT).elem).size/\lo * sz+n * sz<=cs.length/\AppZ P sT xT n m/\0<m/\(capI v:Int)<lo+n+m)/\∀ v',K (.ar v' (n+m.toNat)) (.arr sz v' ((cs.drop (lo * sz)).take (n * sz)++List.replicate (m.toNat * sz) .any)::H)):DOp P o f H K:=by
 obtain ⟨z,cs,L1,L2,rfl,⟨hzz,hsz,hf,hA,hm0,hcp⟩,hk⟩:=h
 have hzz:=hzz.symm
 subst hzz
 generalize hE:(ty P sT).elem=E at *
 refine DOp.step fun a w hs hr=>?_
 have hvs:=hr s (by simp [hop,Op.operands,Call.operands])
 rw [hfs] at hvs
 generalize hvv:a.eval s=u at hvs
 cases hvs with
 | sub sz A N cap lo n hc ha =>
 obtain ⟨hA0,hA1,hA2,hA3,hA6,hA7,hA8,hA9⟩:=hA
 rw [hE] at hA1 hA2 hA6 hA7 hA8
 rw [<-hsz] at hA6 hA7
 obtain ⟨mm,rfl⟩:∃ mm:Nat,m=mm:=⟨m.toNat,by omega⟩
 have hcp:(cap:Int)<lo+n+mm:=hcp
 have hcp:cap - lo<n+mm:=by omega
 simp only [Int.toNat_natCast] at hA8 hA9 hk
 have hxv:a.eval x = .int kk mm:=by
  have:=hr x (by simp [hop,Op.operands,Call.operands])
  rw [hfx] at this
  generalize a.eval x=y at this ⊢
  cases this;rfl
 have hu:=und_slice hA0
 rw [hE] at hu
 have hEsz:∀ w,(sizeOf E).run P w = .ok sz w:=fun w=>by rw [run_sizeOf hA1 hA2,<-hsz]
 have hdx:=und_int (P:=P) hA3
 have hfit:¬ n+mm<=cap - lo:=by omega
 have hneed:cap - lo<n+mm:=by omega
 have hgrow:=growslice_fits hneed hA8
 obtain ⟨i,d',hi,_,_,_,hby,hz⟩:=ty_info (t:=E) rfl hA1 hA2
 cases hzz:i.zero with
 | none=>rw [hzz] at hz;simp [hz] at hA7;omega
 | some z =>
  obtain ⟨zr1,zr2⟩:=zero_rel (P:=P) (S:=stable w (L1 ++ .arr sz (.slice A N cap) cs::L2)) (w:=w) hi hzz hz
  have hzr:∀ w,(zeroValue E).run P w = .ok z w:=fun w=>by simp [zeroValue,typeInfo,program,Sem.run,hi,hzz]
  have hti:∀ w,(typeInfo E).run P w = .ok i w:=fun w=>by simp [typeInfo,program,Sem.run,hi]
  have hdr:=hs.drew
  obtain ⟨olds,o1,o2,o3⟩:=read_sub (P:=P) (n:=n) (H:=L1 ++ .arr sz (.slice A N cap) cs::L2) hdr.1 n (Nat.le_refl _) hf
  have hcl:((cs.drop (lo * sz)).take (n * sz)).length=n * sz:=by rw [List.length_take,List.length_drop];omega
  have hge:=grownCap_ge w (n+mm) (cap - lo) E
  generalize hcapn:grownCap w (n+mm) (cap - lo) E=newCap at *
  have hrest:=size_zeroCells z.cells (newCap - (n+mm))
  generalize hrs:Builtin.zeroCells z.cells (newCap - (n+mm))=rest at *
  have hzc:z.cells.size=sz:=zr1.trans hA7
  have hnews:=size_zeroCells z.cells mm
  generalize hns:Builtin.zeroCells z.cells mm=news' at *
  have hsize:(olds.toArray++news'++rest).size=newCap * sz:=by
   simp only [Array.size_append,List.size_toArray,o2,hnews,hrest,hzc,<-Nat.add_mul]
   congr 1;omega
  have hmul:n * sz+mm * sz<=newCap * sz:=by rw [<-Nat.add_mul];exact Nat.mul_le_mul_right _ hge
  have hv1:∀ j,j<n * sz->(olds.toArray++news'++rest).getD j undef=olds.getD j undef:=fun j hj=>by
   simp only [Array.getD_eq_getD_getElem?,List.getD_eq_getElem?_getD]
   rw [Array.append_assoc,Array.getElem?_append_left (by simp;omega)]
   simp
  generalize hA:olds.toArray++news'++rest=row at *
  have hsw:=hs.add (w':=w.drew.alloc (.cells row E)) (e1:=.arr sz (.slice (some ⟨w.heap.size,0,none⟩) (n+mm) newCap) ((cs.drop (lo * sz)).take (n * sz)++List.replicate (mm * sz) .any)) rfl rfl rfl (by simp) (fun b hb=>Below.heap_alloc w.drew _ b hb)
   (fun b h=>Nat.le_of_eq h.1.symm) (fun hst=>⟨hge,by rw [List.length_append,hcl,List.length_replicate,Nat.add_mul],fun _=>⟨rfl,row,E,(0,0),heap_alloc_new w.drew _,⟨.inl rfl,fun _=>rfl⟩,by simp only [hsize,Nat.zero_add];exact Nat.le_refl _,fun k hk=>by
     rw [List.length_append,hcl,List.length_replicate] at hk
     simp only [Nat.zero_add]
     by_cases hkc:k<n * sz
     · rw [hv1 k hkc,List.getD_eq_getElem?_getD (l:=(cs.drop (lo * sz)).take (n * sz)++List.replicate (mm * sz) V.any),List.getElem?_append_left (by omega),<-List.getD_eq_getElem?_getD]
       exact (o3 k hkc).mono hst
     · rw [List.getD_eq_getElem?_getD (l:=(cs.drop (lo * sz)).take (n * sz)++List.replicate (mm * sz) V.any),List.getElem?_append_right (by omega),hcl,List.getElem?_replicate,if_pos (by omega)]
       exact .any _⟩⟩)
  refine ⟨.slice (some ⟨w.heap.size,0,none⟩) (n+mm) newCap,w.drew.alloc (.cells row E), .ar _ (n+mm),_,?_,hsw, .ar _ _ _ hge (fun h=>nomatch h),hk _⟩
  unfold execOp
  rw [hop]
  have hg2:¬ 281474976710656<Builtin.nextslicecap (n+mm) (cap - lo) * i.bytes:=by rw [<-hby];omega
  have hzd:(zeroValue E).run P w.drew = .ok z w.drew:=hzr w.drew
  have htd:(typeInfo E).run P w.drew = .ok i w.drew:=hti w.drew
  have hask:(askRoom (newCap * i.bytes)).run P w.drew = .ok () w.drew:=by unfold askRoom;split<;>rfl
  unfold grownCap at hcapn
  revert o1 hvv
  generalize (if cap=lo then A else A.map (·.add (lo * sz)))=base
  intro hvv o1
  have hwr:IntKind.i64.wrap (mm:Int)=mm:=by rw [IntKind.wrap_i64]<;>omega
  have hneg:¬ ((mm:Int)<0):=by omega
  have hb48:¬ (281474976710656<(mm:Int) * (i.bytes:Int)):=by
   rw [<-Int.natCast_mul]
   have:mm * i.bytes<=(n+mm) * i.bytes:=Nat.mul_le_mul_right _ (by omega)
   rw [<-hby] at this ⊢
   omega
  have hns0:¬ (mm * sz=0):=Nat.mul_ne_zero (by omega) (by omega)
  have h63:¬ (9223372036854775807<((n:Int)+(mm:Int))):=by omega
  simp [resolve,invoke,Go.builtin,Builtin.append_,hvv,hxv,run_underlying hu,run_underlying hdx,hEsz,asInt,asIntOf,hwr,hneg,hb48,hns0,h63,hfit,hti,hg2,Question.forced,hcapn,hask,o1,hzd,hns,hrs,newRow]
  rw [<-hA,Array.append_assoc]
inductive InA (sz:Nat) (u:Value):Own->Prop
 | here {cs:List V} {H:Own}:InA sz u (.arr sz u cs::H)
 | next {e:Ent} {H:Own} (h:InA sz u H):InA sz u (e::H)
inductive Two (sz:Nat) (v u:Value):Own->Prop
 | here {cs:List V} {H:Own} (h:InA sz u H):Two sz v u (.arr sz v cs::H)
 | there {cs:List V} {H:Own} (h:InA sz v H):Two sz v u (.arr sz u cs::H)
 | next {e:Ent} {H:Own} (h:Two sz v u H):Two sz v u (e::H)
theorem InA.mem {sz:Nat} {u:Value} {H:Own} (h:InA sz u H):∃ cs,Ent.arr sz u cs∈H:=by
 induction h with
 | here=>exact ⟨_,List.mem_cons_self ..⟩
 | next _ ih=>obtain ⟨cs,h⟩:=ih;exact ⟨cs,List.mem_cons_of_mem _ h⟩
theorem touch_any {sz:Nat} {v:Value} (cs ds:List V) (b:Nat):Ent.touches (.arr sz v cs) b->Ent.touches (.arr sz v ds) b:=by
 unfold Ent.touches
 cases v with
 | slice a n cap=>cases a<;>exact fun h=>h
 | _=>exact fun h=>h
theorem Two.spec {sz:Nat} {v u:Value} {H:Own} (h:Two sz v u H):(∃ cs,Ent.arr sz v cs∈H)/\(∃ cs,Ent.arr sz u cs∈H)/\(H.Pairwise (fun e f=>∀ b,e.touches b->¬ f.touches b)->∀ b,(Ent.arr sz v []).touches b->¬ (Ent.arr sz u []).touches b):=by
 induction h with
 | here h =>
  obtain ⟨cs,h⟩:=h.mem
  refine ⟨⟨_,List.mem_cons_self ..⟩,⟨cs,List.mem_cons_of_mem _ h⟩,fun hp b h1 h2=>?_⟩
  exact (List.pairwise_cons.1 hp).1 _ h b (touch_any _ _ b h1) (touch_any _ _ b h2)
 | there h =>
  obtain ⟨cs,h⟩:=h.mem
  refine ⟨⟨cs,List.mem_cons_of_mem _ h⟩,⟨_,List.mem_cons_self ..⟩,fun hp b h1 h2=>?_⟩
  exact (List.pairwise_cons.1 hp).1 _ h b (touch_any _ _ b h2) (touch_any _ _ b h1)
 | next _ ih =>
  obtain ⟨⟨c1,h1⟩,⟨c2,h2⟩,h3⟩:=ih
  exact ⟨⟨c1,List.mem_cons_of_mem _ h1⟩,⟨c2,List.mem_cons_of_mem _ h2⟩,fun hp=>h3 (List.pairwise_cons.1 hp).2⟩
theorem DOp.over_ {c x y:Operand} {ts:Array TypeId} {k:FuncId} {tS tR:TypeId} {v u:Value} {n sz lo m:Nat} (hop:o.op = .call { callee:=.value c,args:=#[x,y],argTypes:=ts }) (hc:f c = .fn (.func k) [] []) (hx:f x = .ar v n) (hy:f y = .sub sz u lo m)
  (hcl:∀ args w,(callFunc k args).run P w=((Extern.SlicesOverlaps.overlaps #[tS,tS] #[tR] args).run P w).andThen fun v w'=>.ok (.value v) w')
  (h:((ty P tS).kind=4/\(ty P (ty P tS).elem).kind≠0/\(ty P (ty P tS).elem).kind≠11/\(ty P (ty P tS).elem).size=sz/\1<sz/\0<n/\0<m)/\Two sz v u H/\K (.bool false) H):DOp P o f H K:=by
 obtain ⟨⟨h1,h2,h3,h4,h5,h6,h7⟩,ht,hk⟩:=h
 obtain ⟨⟨c1,m1⟩,⟨c2,m2⟩,hap⟩:=ht.spec
 refine DOp.step fun a w hs hr=>?_
 have hcv:=hr c (by simp [hop,Op.operands,Call.operands])
 have hxv:=hr x (by simp [hop,Op.operands,Call.operands])
 have hyv:=hr y (by simp [hop,Op.operands,Call.operands])
 rw [hc] at hcv
 rw [hx] at hxv
 rw [hy] at hyv
 have hcv:a.eval c = .func (.func k) #[] #[]:=by
  generalize a.eval c=z at hcv
  cases hcv with
  | fn _ ys zs _ _ n1 r1 n2 r2=>rw [zero_of n1,zero_of n2]
 generalize hva:a.eval x=z1 at hxv
 generalize hvb:a.eval y=z2 at hyv
 cases hxv with
 | ar A1 n cap1 hc1 ha1 =>
 cases hyv with
 | sub sz A2 N cap2 lo m hc2 ha2 =>
 have hE:∀ w,(sizeOf (ty P tS).elem).run P w = .ok sz w:=fun w=>by rw [run_sizeOf h2 h3,h4]
 have hu:=und_slice h1
 have key:(Extern.SlicesOverlaps.overlaps #[tS,tS] #[tR] #[.slice A1 n cap1, .slice (if cap2=lo then A2 else A2.map (·.add (lo * sz))) m (cap2 - lo)]).run P w = .ok (.bool false) w:=by
  obtain ⟨L1,L2,hL⟩:=List.append_of_mem m1
  obtain ⟨M1,M2,hM⟩:=List.append_of_mem m2
  have hcz1:cap1≠0:=by omega
  have hcz2:cap2≠0:=by omega
  have hlo:¬ cap2=lo:=by omega
  rw [if_neg hlo]
  cases A1 with
  | none=>exact absurd (ha1 rfl) hcz1
  | some p =>
   cases A2 with
   | none=>exact absurd (ha2 rfl) hcz2
   | some q0 =>
    obtain ⟨s1,_,_,xs1,T1,fr1,g1,g2,g3,_,g5,_⟩:=arr_of (hL▸hs) hcz1
    obtain ⟨s2,_,_,xs2,T2,fr2,k1,k2,k3,_,k5,_⟩:=arr_of (hM▸hs) hcz2
    have hne:p.block≠q0.block:=fun e=>hap hs.apart p.block ⟨rfl,hcz1⟩ ⟨e,hcz2⟩
    have hqb:(q0.add (lo * sz)).block=q0.block:=by rw [addr_add q0 _ s2]
    rw [Option.map_some]
    have f1:=g2.2 (by omega)
    have hfz:∀ b,b.block=p.block->w.frozen? b=false:=fun b hb=>by
     unfold World.frozen?
     rw [hb,g1]
     obtain ⟨x1,x2⟩:=fr1
     simp only at f1 ⊢
     subst f1
     simp only [Bool.and_eq_false_iff,decide_eq_false_iff_not]
     omega
    have hcs:0<cap2 * sz:=Nat.mul_pos (by omega) (by omega)
    exact Lib.run_overlaps_apart w tS tR (ty P tS).elem hu sz hE p (q0.add (lo * sz)) n cap1 m (cap2 - lo) (by rw [hqb];exact hne) T1 T2 xs1.size xs2.size (by unfold World.shape?;rw [g1]) (by unfold World.shape?;rw [hqb,k1]) (by omega) (hfz p rfl) (hfz _ rfl)
 refine ⟨.bool false,w, .bool false,H,?_,⟨hs, .refl _ _⟩, .bool _,hk⟩
 unfold execOp
 rw [hop]
 have e:=hcl #[.slice A1 n cap1, .slice (if cap2=lo then A2 else A2.map (·.add (lo * sz))) m (cap2 - lo)] w
 rw [key] at e
 simp only [resolve,hcv,Deferred.ofValue,invoke]
 simp [hva,hvb,e]
theorem DOp.slicexd_ {t:TypeId} {x y:Operand} {v:Value} {n:Nat} {k:IntKind} {m:Int} (ext:List Nat) (hd:o.dst.any (fun d=>ext.contains d)=true) (hop:o.op = .slice t x none (some y) none) (hx:f x = .ar v n) (hy:f y = .int k m)
 (h:OnA H v fun sz cs C=>(((ty P t).kind=4/\(ty P (ty P t).elem).kind≠0/\(ty P (ty P t).elem).kind≠11)/\(n:Int)<=m/\m<=(capI v:Int))/\∀ v',capI v'=capI v->K (.ar v' m.toNat) (C (.arr sz v' (cs++List.replicate ((m.toNat - n) * sz) .any)))):DOp P o f H K:=DOp.slicex_ hop hx hy h
theorem DOp.copyaa2_ {d s:Operand} {T T':TypeId} {sz lo n lo2 n2:Nat} {v v2:Value} (hop:o.op = .call { callee:=.builtin .copy,args:=#[d,s],argTypes:=#[T,T'] }) (hd:f d = .sub sz v lo n) (hs2:f s = .sub sz v2 lo2 n2)
  (h:OnA H v2 fun z2 cs2 _=>OnA H v fun z cs C=>(((ty P T).kind=4/\(ty P (ty P T).elem).kind≠0/\(ty P (ty P T).elem).kind≠11/\(ty P (ty P T).elem).size=sz)/\(z2=sz/\lo2 * sz+min n2 n * sz<=cs2.length/\((cs2.drop (lo2 * sz)).take (min n2 n * sz)).all V.one=true) /\
    (z=sz/\lo * sz+min n2 n * sz<=cs.length))/\K (.int .i64 (min n2 n:Nat)) (C (.arr sz v (layV cs (lo * sz) ((cs2.drop (lo2 * sz)).take (min n2 n * sz)))))):DOp P o f H K:=by
 obtain ⟨z2,cs2,M1,M2,hM,z,cs,L1,L2,hL,⟨h1,h2,h3⟩,hk⟩:=h
 exact DOp.copyaa_ hop hd hs2 ⟨h1,z2,cs2,M1,M2,hM,h2,z,cs,L1,L2,hL,h3,hk⟩
theorem DOp.copyas2_ {d s:Operand} {T T':TypeId} {sz lo n:Nat} {v:Value} {xs:List V} (hop:o.op = .call { callee:=.builtin .copy,args:=#[d,s],argTypes:=#[T,T'] }) (hd:f d = .sub sz v lo n) (hs2:srcL (f s)=some xs)
  (h:OnA H v fun z cs C=>(((ty P T).kind=4/\(ty P (ty P T).elem).kind≠0/\(ty P (ty P T).elem).kind≠11/\(ty P (ty P T).elem).size=sz/\0<sz)/\(xs.length<=n/\(∀ y∈xs,y.n=sz/\y.cs.all V.one=true))/\(z=sz/\lo * sz+xs.length * sz<=cs.length)) /\
    K (.int .i64 xs.length) (C (.arr sz v (layV cs (lo * sz) (cells xs))))):DOp P o f H K:=by
 obtain ⟨z,cs,L1,L2,hL,⟨h1,h2,h3⟩,hk⟩:=h
 exact DOp.copyas_ hop hd hs2 ⟨h1,h2,z,cs,L1,L2,hL,h3,hk⟩
theorem DVop.slicea_ {e:Env} {mv tm:List Nat} {ops:Array Oper} {K:Env->Own->Prop} {i:Nat} {o:Oper} {rest:List Oper} {t:TypeId} {x:Operand} {lo hi:Option Operand} {v:Value} {n:Nat} (hm:mv.contains i=false) (ht:tm.contains i=true) (hop:o.op = .slice t x lo hi none) (hx:opd e x = .ar v n)
  (h:((ty P t).kind=4/\(ty P (ty P t).elem).kind≠0/\(ty P (ty P t).elem).kind≠11/\bndS n (lo.map (opd e)) (hi.map (opd e))) /\
    FD P (mv++tm) ops (fun i' l' e'=>DV P mv tm ops K i' l' e' H) (i+1) rest (putO e o.dst (.sub (ty P (ty P t).elem).size v (loN (lo.map (opd e))) (hiN n (hi.map (opd e)) - loN (lo.map (opd e)))))):DVop P mv tm ops K i o rest e H :=
 DVop.tm_ hm ht (DOp.slicea_ hop hx ⟨h.1,rfl,rfl⟩) h.2
theorem SeqD.opP {ops:Array Oper} {K:Env->Own->Prop} {e:Env} {o:Oper} {rest:List Oper} (hg:o.guard=none) (h:side P o (opd e)/\SeqD P ops K rest (putO e o.dst (val P o (opd e))) H):SeqD P ops K (o::rest) e H:=SeqD.op hg (SeqD.one h.1 h.2)
end
end
end Go.Proofs.YtifdpbghkccaoaaGreatDoor
