/- A table without fences, cells is told as text. -/
import Derived.Test.YtifdpbghkccaoaaGreatDoorHtx
import Derived.KernelRfl
namespace Go.Proofs.YtifdpbghkccaoaaGreatDoor
open Go.RowKit
set_option linter.unusedSimpArgs false
set_option linter.unusedVariables false
set_option linter.unusedSectionVars false
set_option maxHeartbeats 4000000
set_option maxRecDepth 100000
section
def lineS (d:TDot):List UInt8:=[10,115]++numsT [d.node,d.epoch,d.n]
def lineQ (r:TRoute):List UInt8:=[10,114]++numsT [r.dot.node,r.dot.epoch,r.dot.n]++(32::hexK r.filter r.filter.length)
def txtS (l:List TDot):List UInt8:=l.flatMap lineS
def txtQ (l:List TRoute):List UInt8:=l.flatMap lineQ
theorem txtS_0 (l:List TDot):txtS (l.take 0)=[]:=rfl
theorem txtQ_0 (l:List TRoute):txtQ (l.take 0)=[]:=rfl
theorem txtS_s {l:List TDot} {k:Nat} (h:k<l.length):txtS (l.take (k+1))=txtS (l.take k)++(10::115::numsT [(l.getD k default).node,(l.getD k default).epoch,(l.getD k default).n]):=by
 rw [take_more l k h];simp [txtS,lineS]
theorem txtQ_s {l:List TRoute} {k:Nat} (h:k<l.length):txtQ (l.take (k+1))=txtQ (l.take k)++(10::114::(numsT [(l.getD k default).dot.node,(l.getD k default).dot.epoch,(l.getD k default).dot.n]++32::hexK (l.getD k default).filter (l.getD k default).filter.length)):=by
 rw [take_more l k h];simp [txtQ,lineQ]
structure Tiny (t:TTable):Prop where
 s:t.seen.length<=100
 f:t.fences.length=0
 r:t.routes.length<=100
 c:t.cells.length=0
 ds:∀ k,i64b (t.seen.getD k default).node/\i64b (t.seen.getD k default).epoch/\i64b (t.seen.getD k default).n
 dr:∀ k,(i64b (t.routes.getD k default).dot.node/\i64b (t.routes.getD k default).dot.epoch/\i64b (t.routes.getD k default).dot.n)/\(t.routes.getD k default).filter.length<=100
theorem txtS_len {t:TTable} (h:Tiny t):∀ k,k<=t.seen.length->(txtS (t.seen.take k)).length<=100 * k
 | 0,_=>Nat.zero_le _
 | k+1,hk=>by
  have h1:=nums3_len (h.ds k)
  have h2:=txtS_len h k (by omega)
  rw [txtS_s (by omega),List.length_append,List.length_cons,List.length_cons]
  omega
theorem txtQ_len {t:TTable} (h:Tiny t):∀ k,k<=t.routes.length->(txtQ (t.routes.take k)).length<=400 * k
 | 0,_=>Nat.zero_le _
 | k+1,hk=>by
  have h1:=nums3_len (h.dr k).1
  have h2:=txtQ_len h k (by omega)
  have h3:=hexK_len (t.routes.getD k default).filter (t.routes.getD k default).filter.length
  have h4:=(h.dr k).2
  rw [txtQ_s (by omega),List.length_append,List.length_cons,List.length_cons,List.length_append,List.length_cons]
  omega
theorem BAt.cast {T:TypeId} {bk off:Nat} {cs:List V} {v:Value} {n m:Nat} (h:BAt T bk off cs v n) (e:n=m):BAt T bk off cs v m:=e▸h
attribute [local irreducible] DW SeqD DV DOp DC DVX lay2 selfP liesB numsT Lib.itoa hexK txtS txtQ
theorem sv_ptabtext_dc {p:Prop} (h:p:=by first | exact sv | exact ⟨hB1,by simp only [List.length_append,List.length_cons,List.length_nil];omega⟩ | exact ⟨hB1,by omega⟩ | exact ⟨by (simp only [List.length_append,List.length_cons,List.length_nil,Nat.zero_add];exact hB1.next _ _),hT.ds _,by (simp only [List.length_append,List.length_cons,List.length_nil];omega)⟩ | exact ⟨by (simp only [List.length_append,List.length_cons,List.length_nil,Nat.zero_add];exact hB1.next _ _),(hT.dr _).1,by (simp only [List.length_append,List.length_cons,List.length_nil];omega)⟩ | exact ⟨hB2.cast (by simp only [List.length_append,List.length_cons,List.length_nil];omega),by (simp only [List.length_append,List.length_cons,List.length_nil];omega),by omega⟩ | exact ⟨hB1,by (simp only [List.length_append];omega)⟩ | fail):p:=h
section
attribute [local push_cast 2000] encDot encRoute
theorem ptabtext_dc (t:TTable) (T5:TypeId) (fr:Nat×Nat) (F:Own):(Tiny t)->DC Tryz.prog 23 [.agg [.sl (t.seen.map encDot), .sl (t.fences.map encFence), .sl (t.routes.map encRoute), .sl (t.cells.map encCell)]] ([knP T5 fr]++F) fun d G=>d = .str (txtS t.seen++txtQ t.routes)/\G=[knP T5 fr]++F:=by
 intro hA
 have hT:=hA
 refine DC.bodyS (n_:=106) (show Tryz.prog.funcs[23]? = some Tryz.f23 by kernel_rfl) rfl rfl (by rfl) ?_
 simp only [env0,txtS_0,txtQ_0,List.append_nil,List.cons_append,List.nil_append]
 have kw:=ksIs [0,1,2,3,5,7,9,11,13,14,15,16,30,31,32,33,45,46,47,48,68,69,70,71]
 have ow:=ownIs []
 have:=hT.s;have:=hT.r;have hf0:=hT.f;have hc0:=hT.c
 repeat' (first
  | ((refine DOp.allocS_ rfl ?_);(with_reducible intro b3);refine s_ ?_)
  | ((with_reducible refine DW.loopB 0 (X:=Nat×Value×VS) (fun x=>x.1<=t.seen.length/\BAt 97 b3 0 x.2.2 x.2.1 (txtS (t.seen.take x.1)).length) (fun x=>[(1, .sp [.sl (t.seen.map encDot), .sl (t.fences.map encFence), .sl (t.routes.map encRoute), .sl (t.cells.map encCell)]),(3, .raw (.pointer (some ⟨b3,0,none⟩))),(13, .sl (t.seen.map encDot)),(14, .int .i64 t.seen.length),(15, .int .i64 x.1)]) (fun x=>[.tb 97 b3 x.2.2, .ba 5 x.2.1 (txtS (t.seen.take x.1)),knP T5 fr]) (fun x=>t.seen.length - x.1) ((0, .slice none 0 0,[.raw (.pointer none), .ar (.slice none 0 0) 0])) ?_ ?_ ?_);exact (⟨Nat.zero_le _,by (simp only [txtS_0,List.length_nil];exact bat0 _)⟩);(simp [Sub,get,keepL]<;>fail);(try simp only [txtS_0,txtQ_0,List.append_nil,List.cons_append,List.nil_append]);refine pl_ ?_;intro ⟨k,v1,c1⟩ ⟨hk,hB1⟩;(try simp only [txtS_0,txtQ_0,List.append_nil,List.cons_append,List.nil_append]);(try simp only at hk hB1);have hxl:=txtS_len hT k hk;have hnl:=nums3_len (hT.ds k))
  | ((have hkl:k=t.seen.length:=by omega);(subst hkl);(rw [List.take_length] at hB1 ⊢);((with_reducible refine DW.loopB 2 (X:=Nat) (fun x=>x<=0) (fun x=>[(1, .sp [.sl (t.seen.map encDot), .sl (t.fences.map encFence), .sl (t.routes.map encRoute), .sl (t.cells.map encCell)]),(3, .raw (.pointer (some ⟨b3,0,none⟩))),(30, .sl (t.fences.map encFence)),(31, .int .i64 t.fences.length),(32, .int .i64 x)]) (fun x=>[.tb 97 b3 c1, .ba 5 v1 (txtS t.seen),knP T5 fr]) (fun x=>0 - x) (0) ?_ ?_ ?_);exact (Nat.zero_le _);(simp [Sub,get,keepL]<;>fail);(try simp only [txtS_0,txtQ_0,List.append_nil,List.cons_append,List.nil_append]);refine pl_ ?_;intro k2 hk2;(try simp only [txtS_0,txtQ_0,List.append_nil,List.cons_append,List.nil_append])))
  | ((with_reducible refine DW.loopB 4 (X:=Nat×Value×VS) (fun x=>x.1<=t.routes.length/\BAt 97 b3 0 x.2.2 x.2.1 (txtS t.seen++txtQ (t.routes.take x.1)).length) (fun x=>[(1, .sp [.sl (t.seen.map encDot), .sl (t.fences.map encFence), .sl (t.routes.map encRoute), .sl (t.cells.map encCell)]),(3, .raw (.pointer (some ⟨b3,0,none⟩))),(45, .sl (t.routes.map encRoute)),(46, .int .i64 t.routes.length),(47, .int .i64 x.1)]) (fun x=>[.tb 97 b3 x.2.2, .ba 5 x.2.1 (txtS t.seen++txtQ (t.routes.take x.1)),knP T5 fr]) (fun x=>t.routes.length - x.1) ((0,v1,c1)) ?_ ?_ ?_);exact (⟨Nat.zero_le _,by (simp only [txtQ_0,List.append_nil];exact hB1)⟩);(simp [Sub,get,keepL]<;>fail);(try simp only [txtS_0,txtQ_0,List.append_nil,List.cons_append,List.nil_append]);refine pl_ ?_;intro ⟨k3,v3,c3⟩ ⟨hk3,hB1⟩;(try simp only [txtS_0,txtQ_0,List.append_nil,List.cons_append,List.nil_append]);(try simp only at hk3 hB1);have hql:=txtQ_len hT k3 hk3;have hnl:=nums3_len (hT.dr k3).1;have hfl:=(hT.dr k3).2;have hsl:=txtS_len hT t.seen.length (Nat.le_refl _);rw [List.take_length] at hsl)
  | ((have hkl3:k3=t.routes.length:=by omega);(subst hkl3);(rw [List.take_length] at hB1 hql ⊢);((with_reducible refine DW.loopB 6 (X:=Nat) (fun x=>x<=0) (fun x=>[(3, .raw (.pointer (some ⟨b3,0,none⟩))),(68, .sl (t.cells.map encCell)),(69, .int .i64 t.cells.length),(70, .int .i64 x)]) (fun x=>[.tb 97 b3 c3, .ba 5 v3 (txtS t.seen++txtQ t.routes),knP T5 fr]) (fun x=>0 - x) (0) ?_ ?_ ?_);exact (Nat.zero_le _);(simp [Sub,get,keepL]<;>fail);(try simp only [txtS_0,txtQ_0,List.append_nil,List.cons_append,List.nil_append]);refine pl_ ?_;intro k4 hk4;(try simp only [txtS_0,txtQ_0,List.append_nil,List.cons_append,List.nil_append])))
  | refine g_ ?_
  | ((with_reducible refine And.intro ?_ ?_);(exact sv_ptabtext_dc))
  | (refine DW.cond (by rfl) ?_ ?_<;>(first | exact i0_ | (refine ic_ ?_;intro hb)))
  | ((with_reducible refine FVg_cases ?_ ?_)<;>(intro hb;rw [hb];revert hb;(first | exact i0_ | (refine i_ ?_;intro hb))))
  | refine r_ ?_
  | refine k_ ?_
  | (refine p_ (nums3_dc _ _ _ _ _ _ _ _ _ _ _ _) ?_ (ha:=by exact sv_ptabtext_dc);rintro d H1 ⟨w2,c2,hB2,rfl,rfl⟩<;>refine s_ ?_)
  | (refine p_ (wtext_dc _ _ _ _ _ _ _ _) ?_ (ha:=by exact sv_ptabtext_dc);rintro d H1 ⟨w3,c4,hB3,rfl,rfl⟩<;>refine s_ ?_)
  | (refine p_ (wstr_dc _ _ _ _ _ _ _ _) ?_ (ha:=by exact sv_ptabtext_dc);rintro d H1 ⟨w1,rfl,rfl⟩<;>refine s_ ?_)
  | (refine p_ (bstr_dc _ _ _ _ _ _ _) ?_ (ha:=by exact sv_ptabtext_dc);rintro d H1 ⟨rfl,rfl⟩<;>refine s_ ?_)
  | refine o_ ?_
  | refine f_ ?_
  | ((fail_if_success (have zz:=b3));with_reducible intro b3)
  | with_reducible intro b)
 all_goals first
 | (exfalso;omega)
 | ((first | exact fin_ | refine finq_ ?_);done)
 | ((have e:=txtS_s (show k<t.seen.length by omega))
    refine ⟨(k+1,w2,c2),⟨by (try simp only);omega,?_⟩,by (try simp only);omega,by simp [Sub,get],?_⟩;((try dsimp only);rw [e];exact hB2.cast (by simp only [List.length_append,List.length_cons,List.length_nil];omega));((try dsimp only);rw [e];(exact sub_));done)
 | ((have e:=txtQ_s (show k3<t.routes.length by omega))
    refine ⟨(k3+1,w3,c4),⟨by (try simp only);omega,?_⟩,by (try simp only);omega,by simp [Sub,get],?_⟩;((try dsimp only);rw [e];exact hB3.cast (by simp only [List.length_append,List.length_cons,List.length_nil];omega));((try dsimp only);rw [e];(exact sub_));done)
 | (trace_state;fail)
end
end
end Go.Proofs.YtifdpbghkccaoaaGreatDoor
