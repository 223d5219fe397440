/- Which bytes are texts: from rune to rune. -/
import Derived.Test.YtphhijelneaedaaDoorLpx
import Derived.KernelRfl
import Derived.Test.YtphhijelneaedaaDoorYbx
import Derived.Lib.LaidU8
import Derived.Shelf.Vars
import Derived.Test.YtphhijelneaedaaDoorLib
import Derived.Test.YtphhijelneaedaaDoorEl
namespace Go.Proofs.YtphhijelneaedaaDoor
open Go.RowKit
set_option linter.unusedSimpArgs false
set_option linter.unusedVariables false
set_option linter.unusedSectionVars false
set_option maxHeartbeats 4000000
set_option maxRecDepth 100000
section
attribute [local irreducible] DW SeqD DV DOp DC DVX
def chkF:Nat->Str->Bool
 | 0,_=>true
 | f+1,l=>if l.length=0 then true else (stepM l).2.2&&(stepM l).1 != 0&&chkF f (l.drop (stepM l).2.1.toNat)
def chkB (l:Str):Bool:=chkF l.length l
theorem chkF_nil:∀ f,chkF f []=true
 | 0=>rfl
 | f+1=>by unfold chkF;simp
theorem chkF_more (f:Nat) {l:Str} (h:l.length≠0):chkF (f+1) l=((stepM l).2.2&&(stepM l).1 != 0&&chkF f (l.drop (stepM l).2.1.toNat)):=by
 conv=>lhs;unfold chkF
 rw [if_neg h]
theorem dropM1 (n:Nat) (l:Str):List.drop n (List.map u8 l)=List.map u8 (List.drop n l):=List.map_drop.symm
theorem takeM1 (n:Nat) (l:Str):List.take n (List.map u8 l)=List.map u8 (List.take n l):=List.map_take.symm
theorem takeL1 (l:Str):List.take l.length l=l:=List.take_length
theorem chk_bad {l:Str} {f k:Nat} (hk:k<l.length) (hf:l.length - k<=f) (h:(stepM (l.drop k)).2.2=false\/(stepM (l.drop k)).1=0):chkF f (l.drop k)=false:=by
 obtain ⟨g,rfl⟩:∃ g,f=g+1:=⟨f - 1,by omega⟩
 rw [chkF_more g (by rw [List.length_drop];omega)]
 rcases h with h | h<;>rw [h]<;>simp
theorem chk_go {l:Str} {f k:Nat} (hk:k<l.length) (hf:l.length - k<=f) (h1:(stepM (l.drop k)).2.2=true) (h2:¬ (stepM (l.drop k)).1=0):∃ m g:Nat,((stepM (l.drop k)).2.1=(m:Int))/\1<=m/\k+m<=l.length/\l.length - (k+m)<=g/\chkF f (l.drop k)=chkF g (l.drop (k+m)):=by
 obtain ⟨g,rfl⟩:∃ g,f=g+1:=⟨f - 1,by omega⟩
 have hne:l.drop k≠[]:=fun e=>by have:=congrArg List.length e;rw [List.length_drop] at this;simp at this;omega
 obtain ⟨a1,a2⟩:=stepM_ok hne h1
 rw [List.length_drop] at a2
 refine ⟨(stepM (l.drop k)).2.1.toNat,g,by omega,by omega,by omega,by omega,?_⟩
 rw [chkF_more g (by rw [List.length_drop];omega),h1,List.drop_drop]
 have:((stepM (l.drop k)).1 != 0)=true:=by simpa using h2
 rw [this]
 rfl
theorem sv_check_dc {p:Prop} (h:p:=by first | exact sv | (simp [u8];omega) | (simp [u8]<;>omega) | (simp only [List.length_drop];omega) | fail):p:=h
section
attribute [local push_cast 2000] dropM1 takeM1 takeL1 List.length_drop
theorem check_dc (l:Str) (F:Own):(l.length<=1000000000)->DC Tryd.prog 86 [.sl (l.map u8)] (([]:Own)++F) fun d G=>∃ i:Int,d = .int .i64 i/\decide (i<0)=chkB l/\G=[]++F:=by
 intro hA
 have hl:=hA
 refine DC.bodyS (n_:=29) (show Tryd.prog.funcs[86]? = some Tryd.f86 by kernel_rfl) rfl rfl (by rfl) ?_
 simp only [env0,List.cons_append,List.nil_append]
 have kw:=ksIs [0,2,3,4,5,6,10,24]
 have ow:=ownIs []
 repeat' (first
  | ((with_reducible refine DW.loopB 0 (X:=Nat) (fun x=>x<=l.length/\∃ f,l.length - x<=f/\chkB l=chkF f (l.drop x)) (fun x=>[(0, .sl (l.map u8)),(3, .int .i64 x)]) (fun x=>([]:Own)) (fun x=>l.length - x) (0) ?_ ?_ ?_);exact (⟨Nat.zero_le _,l.length,by omega,by rw [List.drop_zero];rfl⟩);(simp [Sub,get,keepL]<;>fail);(try simp only [List.cons_append,List.nil_append]);refine pl_ ?_;intro k ⟨hk,f,hf,ha⟩;(try simp only [List.cons_append,List.nil_append]))
  | refine g_ ?_
  | ((with_reducible refine And.intro ?_ ?_);(exact sv_check_dc))
  | (refine DW.cond (by rfl) ?_ ?_<;>(first | exact i0_ | (refine ic_ ?_;intro hb)))
  | ((with_reducible refine FVg_cases ?_ ?_)<;>(intro hb;rw [hb];revert hb;(first | exact i0_ | (refine i_ ?_;intro hb))))
  | refine r_ ?_
  | refine k_ ?_
  | (refine q_ (step_dc _ _) ?_ (ha:=by exact sv_check_dc))
  | refine o_ ?_
  | refine f_ ?_
  | with_reducible intro b)
 all_goals first
 | (have hkl:k=l.length:=by omega
    subst hkl
    rw [List.drop_length,chkF_nil] at ha
    refine ⟨_,_,le.rfl_,⟨-1,rfl,by rw [ha];rfl,rfl⟩,SubP.refl⟩)
 | (have hb2:=chk_bad (show k<l.length by omega) hf (by first | (left;assumption) | (right;assumption))
    rw [hb2] at ha
    refine ⟨_,_,le.rfl_,⟨(k:Int),rfl,by rw [ha];exact decide_eq_false (by omega),rfl⟩,SubP.refl⟩)
 | (obtain ⟨m,g,e1,e2,e3,e4,e5⟩:=chk_go (show k<l.length by omega) hf (by assumption) (by assumption)
    refine ⟨k+m,⟨e3,g,e4,by rw [ha,e5]⟩,by omega,?_,?_⟩;(simp [Sub,get,e1,wrap_i64 ((k:Int)+(m:Int)) (by omega) (by omega)]<;>fail);(exact sub_);done)
end
end
section
open Go.RowKit Go.ChangeShapes Go.WideShapes Go.Deep
theorem row_sim {w:World} {K:Own} {g:Nat} {o:Obj} (h:Sim w K) (hk:∀ e∈K,∃ b cs,e = .know b cs) (hg:w.heap[g]? = some o):Sim w (loose :: .row g o::K):=by
 have st:∀ a,stable w K a->stable w (loose :: .row g o::K) a/\w.cell? a=w.cell? a:=fun a ha=>⟨⟨ha.1,fun e he=>by
  rcases List.mem_cons.1 he with rfl | he
  · exact fun h=>h
  · rcases List.mem_cons.1 he with rfl | he
    · exact fun h=>h
    · exact ha.2 e he⟩,rfl⟩
 refine ⟨fun e he=>?_,?_,?_⟩
 · rcases List.mem_cons.1 he with rfl | he
   · exact fun k hk=>absurd hk (Nat.not_lt_zero _)
   · rcases List.mem_cons.1 he with rfl | he
     · exact hg
     · exact Ent.holds_mono (h.holds e he) st fun _ _=>rfl
 · exact List.pairwise_cons.2 ⟨fun f hf a ha=>ha.elim,List.pairwise_cons.2 ⟨fun f hf a ha=>ha.elim,h.disj⟩⟩
 · refine List.pairwise_cons.2 ⟨fun f hf a ha=>ha.elim,List.pairwise_cons.2 ⟨fun f hf a ha hb=>?_,h.apart⟩⟩
   obtain ⟨b,cs,rfl⟩:=hk f hf
   exact hb
theorem DC.lawR {P:Program} {f:FuncId} {args:List V} {K:Own} {g:Nat} {o:Obj} {xs:Array Value} {w:World} (h:DC P f args (loose :: .row g o::K) fun d H'=>d = .bool true/\H'=loose :: .row g o::K) (hK:Sim w K) (hk:∀ e∈K,∃ b cs,e = .know b cs) (hg:w.heap[g]? = some o)
  (hn:xs.size=args.length) (hr:∀ k,k<args.length->R (stable w []) w (xs.getD k undef) (args.getD k .any)) :
  Calls P f xs w fun e w'=>e = .returned (.bool true)/\Below w.heap.size w w':=by
 have own:∀ e∈(loose :: .row g o::K:Own),∀ a,¬ e.owns a:=fun e he a=>by
  rcases List.mem_cons.1 he with rfl | he
  · exact fun h=>h
  · rcases List.mem_cons.1 he with rfl | he
    · exact fun h=>h
    · obtain ⟨b,cs,rfl⟩:=hk e he
      exact fun h=>h
 have st:∀ a,stable w [] a->stable w (loose :: .row g o::K) a/\w.cell? a=w.cell? a:=fun a ha=>⟨⟨ha.1,fun e he=>own e he a⟩,rfl⟩
 refine (h.2 xs w (row_sim hK hk hg) hn fun k hk=>(hr k hk).mono st).mono fun e w' ⟨v,d,H',he,s,x,r,hd,hH⟩=>?_
 subst hd
 subst hH
 cases r
 refine ⟨he,x.os,x.tape,x.output,x.size,fun b hb=>?_⟩
 by_cases hbg:b=g
 · subst hbg
   have h1:w'.heap[b]? = some o:=s.holds (.row b o) (by simp)
   rw [h1,hg]
 · refine (x.full b hb fun e he ht=>?_).1
   rcases List.mem_cons.1 he with rfl | he
   · exact ht
   · rcases List.mem_cons.1 he with rfl | he
     · exact hbg ht
     · obtain ⟨b,cs,rfl⟩:=hk e he
       exact ht
theorem ml_know {m:Int}:∀ e∈([knM m]:Own),∃ b cs,e = .know b cs:=fun e he=>by
 rw [List.mem_singleton] at he;subst he;exact ⟨_,_,rfl⟩
theorem ml_sim {w:World} {m:Int} (hm:w.cell? ⟨0,0,none⟩=some (.int .i64 m)):Sim w [knM m]:=by
 refine ⟨fun e he=>?_,List.pairwise_singleton _ _,List.pairwise_singleton _ _⟩
 rw [List.mem_singleton] at he
 subst he
 intro k hk
 have hk0:k=0:=by simpa using hk
 subst hk0
 refine ⟨⟨by rw [hm];rfl,fun e he=>by rw [List.mem_singleton] at he;subst he;exact fun h=>h⟩,?_⟩
 unfold cellAt
 rw [hm]
 exact .int _ _
theorem pow_obj {w:World} (h:Go.Lib.VarReads Tryd.prog w "internal/strconv.uint64pow10" (Go.Lib.tabData .u64 Go.Lib.pow10Tab)):∃ T fr,w.heap[3]? = some (pow10O T fr):=by
 obtain ⟨g,t,cs,fuel,p,h1,h2,h3,h4⟩:=h
 have e1:g=3:=Option.some.inj (h1.symm.trans (by kernel_rfl))
 subst e1
 have e2:t=200:=Option.some.inj (h2.symm.trans (by kernel_rfl))
 subst e2
 have e3:=Go.Lib.cells_of_tab (e:=145) (n:=20) Tryd.underlying200 Tryd.underlying145 (by kernel_rfl) (by kernel_rfl) h4
 unfold World.var? at h3
 rw [show Program.globalNamed Tryd.prog "internal/strconv.uint64pow10" = some 3 from by kernel_rfl] at h3
 simp only [Option.bind_some] at h3
 cases hh:w.heap[3]? with
 | none=>rw [hh] at h3;exact absurd h3 (by simp)
 | some o =>
  rw [hh] at h3
  cases o with
  | cells xs T fr =>
   simp only [Option.some.injEq] at h3
   subst h3
   refine ⟨T,fr,?_⟩
   unfold pow10O
   rw [<-e3]
  | _=>exact absurd h3 (by simp)
end
end Go.Proofs.YtphhijelneaedaaDoor
