/- A line is read: a word of an event, an event. -/
import Derived.Test.YtphhijelneaedaaDoorYex
import Derived.KernelRfl
namespace Go.Proofs.YtphhijelneaedaaDoor
open Go.RowKit
set_option linter.unusedSimpArgs false
set_option linter.unusedVariables false
set_option linter.unusedSectionVars false
set_option maxHeartbeats 4000000
set_option maxRecDepth 100000
section
theorem hexW_n {b:YS} (h:b≠[]):hexW b=hexZ b:=by unfold hexW hexZ;rw [if_neg h]
theorem hexW_0:hexW []=[45]:=rfl
theorem hexZ_b {b:YS} (h:(hexZ b).length<=1000000000):b.length<=1000000000:=by rw [hexZ_len] at h;omega
def bvY (b:YS):V:=if b=[] then .gs (.slice none 0 0) [] else .sl (b.map u8)
theorem bvY_nil:bvY [] = .gs (.slice none 0 0) []:=rfl
theorem bvY_le (b:YS):le (bvY b) (.sl (b.map u8)):=by
 unfold bvY
 split
 · rename_i h;subst h;exact le.gs rfl
 · exact le.rfl_
theorem bvY_two (b:YS):bvY b = .gs (.slice none 0 0) []\/bvY b = .sl (b.map u8):=by
 unfold bvY
 split
 · exact .inl rfl
 · exact .inr rfl
theorem bvY_m1 (b:YS):V.n.match_1 (fun _=>List V) (bvY b) (fun cs=>cs) (fun v=>[v])=[bvY b]:=by rcases bvY_two b with h | h<;>rw [h]
theorem bvY_m3 (b:YS):V.solid.match_1 (fun _=>Bool) (bvY b) (fun _=>false) (fun _=>false) (fun _=>false) (fun _=>false) (fun _=>true)=true:=by rcases bvY_two b with h | h<;>rw [h]
theorem bvY_m4 (b:YS):V.one.match_1 (fun _=>Bool) (bvY b) (fun _=>false) (fun _=>false) (fun _=>false) (fun _=>false) (fun _=>false) (fun _=>true)=true:=by rcases bvY_two b with h | h<;>rw [h]
theorem hex_dc (l:YS) (F:Own):(l=hexW (unhex l)/\l.length<=1000000000)->DC Tryd.prog 106 [.str l] ([]++F) fun d G=>d = .tup [bvY (unhex l), .bool true]/\G=[]++F:=fun ⟨h,hl⟩=>by
 by_cases h0:unhex l=[]
 · rw [h0] at h
   subst h
   rw [h0];exact hex0_dc F trivial
 · rw [hexW_n h0] at h
   have key:=hexn_dc (unhex l) F ⟨h0,hexZ_b (by rw [<-h];exact hl)⟩
   unfold bvY
   rw [if_neg h0]
   rwa [<-h] at key
structure FW (c:UInt8) (l:YS):Prop where
 k:c=120\/c=110\/c=99\/c=107
 f:fitY c l
 l:l.length<=1000000000
theorem FW.hex {c:UInt8} {l:YS} (h:FW c l) (e:c=120):l=hexW (unhex l)/\l.length<=1000000000:=by
 have:=h.f
 unfold fitY at this
 rw [if_pos e] at this
 exact ⟨this,h.l⟩
theorem FW.num {c:UInt8} {l:YS} (h:FW c l) (e:¬ c=120):okNum l/\l.length<=1000000000:=by
 have:=h.f
 unfold fitY at this
 rw [if_neg e] at this
 exact ⟨this,h.l⟩
theorem c_eq {c:UInt8} {n:Nat} (hn:n<256):(((c.toNat:Nat):Int)==(n:Int))=decide (c=UInt8.ofNat n):=by
 have hz:(UInt8.ofNat n).toNat=n:=by simp [UInt8.toNat_ofNat];omega
 rw [Bool.eq_iff_iff,beq_iff_eq,decide_eq_true_eq]
 constructor
 · intro h;exact UInt8.toNat_inj.1 (by rw [hz];omega)
 · intro h;rw [h,hz]
theorem set_x {e:Ev} {l:YS}:setY e 120 l={ e with b:=unhex l }:=rfl
theorem set_n {e:Ev} {l:YS}:setY e 110 l={ e with node:=numV l }:=rfl
theorem set_c {e:Ev} {l:YS}:setY e 99 l={ e with conn:=numV l }:=rfl
theorem set_k {e:Ev} {l:YS}:setY e 107 l={ e with n:=numV l }:=rfl
theorem ok_x {l:YS}:okY 120 l=true:=rfl
theorem ok_n {l:YS}:okY 110 l=numB l:=rfl
theorem ok_c {l:YS}:okY 99 l=numB l:=rfl
theorem ok_k {l:YS}:okY 107 l=numB l:=rfl
theorem c_x {c:UInt8}:(((c.toNat:Nat):Int)==120)=decide (c=120):=c_eq (n:=120) (by decide)
theorem c_n {c:UInt8}:(((c.toNat:Nat):Int)==110)=decide (c=110):=c_eq (n:=110) (by decide)
theorem c_c {c:UInt8}:(((c.toNat:Nat):Int)==99)=decide (c=99):=c_eq (n:=99) (by decide)
theorem c_k {c:UInt8}:(((c.toNat:Nat):Int)==107)=decide (c=107):=c_eq (n:=107) (by decide)
attribute [local irreducible] DW SeqD DV DOp DC DVX unhex numV numB bvY
theorem sv_read_dc {p:Prop} (h:p:=by first | exact sv | exact hW.hex (by simpa using hb) | exact hW.num (by simpa using hb) | exact hW.hex (by assumption) | exact hW.num (by assumption) | fail):p:=h
section
attribute [local push_cast 2000] c_x c_n c_c c_k bvY_m1 bvY_m3 bvY_m4
theorem read_dc (T5:TypeId) (fr:Nat×Nat) (b:Nat) (e:Ev) (c:UInt8) (l:YS) (F:Own):(FW c l)->DC Tryd.prog 80 [.raw (.pointer (some ⟨b,0,none⟩)), .int .u8 (c.toNat:Int), .str l] ([.blk b [.int .i64 e.kind, .int .i64 e.node, .int .i64 e.conn, .int .i64 e.n,bvY e.b],knP T5 fr]++F) fun d G=>d = .bool (okY c l)/\G=[.blk b [.int .i64 (setY e c l).kind, .int .i64 (setY e c l).node, .int .i64 (setY e c l).conn, .int .i64 (setY e c l).n,bvY (setY e c l).b],knP T5 fr]++F:=by
 intro hA
 have hW:=hA
 refine DC.bodyS (n_:=48) (show Tryd.prog.funcs[80]? = some Tryd.f80 by kernel_rfl) rfl rfl (by rfl) ?_
 simp only [env0,List.cons_append,List.nil_append]
 have kw:=ksIs [0,1,2,6,7,8,9,10,12,28,29,35,41]
 have ow:=ownIs []
 repeat' (first
  | refine g_ ?_
  | ((with_reducible refine And.intro ?_ ?_);(exact sv_read_dc))
  | (refine DW.cond (by rfl) ?_ ?_<;>(first | exact i0_ | (refine ic_ ?_;intro hb)))
  | ((with_reducible refine FVg_cases ?_ ?_)<;>(intro hb;rw [hb];revert hb;(first | exact i0_ | (refine i_ ?_;intro hb))))
  | refine r_ ?_
  | refine k_ ?_
  | ((first | refine q_ (hex_dc _ _) ?_ (ha:=by exact sv_read_dc) | refine q_ (number_dc _ _ _ _) ?_ (ha:=by exact sv_read_dc)))
  | refine o_ ?_
  | refine f_ ?_
  | with_reducible intro b)
 all_goals first
 | ((rcases hW.k with rfl | rfl | rfl | rfl)<;>first | (exfalso;simp_all;done) | (simp only [set_x,set_n,set_c,set_k,ok_x,ok_n,ok_c,ok_k];(first | exact fin_ | refine finq_ ?_);done))
 | (trace_state;fail)
end
end
end Go.Proofs.YtphhijelneaedaaDoor
