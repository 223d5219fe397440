/- What is dropped of a row. -/
import Derived.Test.YtfamfamgopchnaaGreatDoorPt7x
import Derived.KernelRfl
namespace Go.Proofs.YtfamfamgopchnaaGreatDoor
open Go.RowKit
set_option linter.unusedSimpArgs false
set_option linter.unusedVariables false
set_option linter.unusedSectionVars false
set_option maxHeartbeats 4000000
set_option maxRecDepth 100000


theorem any_no {T : Type} [Inhabited T] {l : List T} {p : T → Bool} (h : ∀ q, q < l.length → p (l.getD q default) = false) : l.any p = false := by
  rw [List.any_eq_false]
  intro x hx
  obtain ⟨q, hq, rfl⟩ := mem_getD hx
  rw [h q hq]; simp
theorem any_yes {T : Type} [Inhabited T] {l : List T} {p : T → Bool} {k : Nat} (hk : k < l.length) (h : p (l.getD k default) = true) : l.any p = true := List.any_eq_true.2 ⟨_, getD_mem hk, h⟩
theorem flt_all {T : Type} [Inhabited T] {l : List T} {p : T → Bool} (h : ∀ q, q < l.length → p (l.getD q default) = false) : l.filter (fun x => !p x) = l := List.filter_eq_self.2 fun x hx => by
  obtain ⟨q, hq, rfl⟩ := mem_getD hx
  rw [h q hq]; rfl
def cnt {T : Type} (p : T → Bool) (l : List T) (j : Nat) : Nat := ((l.take j).filter (fun x => !p x)).length
structure DI_ {T : Type} (p : T → Bool) (l : List T) (j : Nat) (m : List T) : Prop where
  jle : j ≤ l.length
  len : m.length = l.length
  rest : m.drop j = l.drop j
  done_ : m.take (cnt p l j) = (l.take j).filter (fun x => !p x)
  lt : cnt p l j < j
section
variable {T : Type} [Inhabited T] {p : T → Bool} {l m : List T} {j k : Nat}
theorem take_next {l : List T} {j : Nat} (h : j < l.length) : l.take (j + 1) = l.take j ++ [l.getD j default] := by
  rw [List.take_add_one, List.getD_eq_getElem?_getD, List.getElem?_eq_getElem h]; rfl
theorem cnt_keep (h : j < l.length) (hp : p (l.getD j default) = false) : cnt p l (j + 1) = cnt p l j + 1 := by
  unfold cnt; rw [take_next h, List.filter_append, List.length_append, List.filter_cons, hp]; rfl
theorem cnt_drop (h : j < l.length) (hp : p (l.getD j default) = true) : cnt p l (j + 1) = cnt p l j := by
  unfold cnt; rw [take_next h, List.filter_append, List.length_append, List.filter_cons, hp]; rfl
theorem cnt_le (l : List T) (j : Nat) : cnt p l j ≤ l.length := by
  unfold cnt
  have h1 := List.length_filter_le (fun x => !p x) (l.take j)
  have h2 : (l.take j).length ≤ l.length := by rw [List.length_take]; omega
  omega
theorem DI_.at_ (h : DI_ p l j m) (hj : j < l.length) : m.getD j default = l.getD j default := by
  have h1 := h.rest
  rw [List.drop_eq_getElem_cons (by rw [h.len]; exact hj), List.drop_eq_getElem_cons hj] at h1
  injection h1 with h1 _
  rw [getD_get m j (by rw [h.len]; exact hj), getD_get l j hj, h1]
theorem drop_more_ {l m : List T} {j : Nat} (h : m.drop j = l.drop j) : m.drop (j + 1) = l.drop (j + 1) := by
  rw [← List.drop_drop (i := 1) (j := j) (l := m), ← List.drop_drop (i := 1) (j := j) (l := l), h]
theorem DI_.drop (h : DI_ p l j m) (hj : j < l.length) (hp : p (m.getD j default) = true) : DI_ p l (j + 1) m := by
  rw [h.at_ hj] at hp
  have e := cnt_drop hj hp
  refine ⟨hj, h.len, drop_more_ h.rest, ?_, by have := h.lt; omega⟩
  rw [e, h.done_, take_next hj, List.filter_append, List.filter_cons, hp]; simp
theorem DI_.keep (h : DI_ p l j m) (hj : j < l.length) (hp : p (m.getD j default) = false) : DI_ p l (j + 1) (m.set (cnt p l j) (m.getD j default)) := by
  have hat := h.at_ hj
  rw [hat] at hp ⊢
  have e := cnt_keep hj hp
  have hlt := h.lt
  refine ⟨hj, by rw [List.length_set]; exact h.len, ?_, ?_, by omega⟩
  · rw [List.drop_set_of_lt (by omega)]; exact drop_more_ h.rest
  · rw [e, take_next (by rw [List.length_set, h.len]; have := h.jle; omega), List.take_set_of_le (Nat.le_refl _), h.done_, take_next hj, List.filter_append]
    congr 1
    rw [List.filter_cons, hp, List.getD_eq_getElem?_getD, List.getElem?_set_self (by rw [h.len]; have := h.jle; omega)]
    rfl
theorem DI_.start (hk : k < l.length ∧ p (l.getD k default) = true ∧ ∀ q, q < k → p (l.getD q default) = false) : cnt p l (k + 1) = k ∧ DI_ p l (k + 1) l := by
  obtain ⟨h1, h2, h3⟩ := hk
  have hf : (l.take k).filter (fun x => !p x) = l.take k := List.filter_eq_self.2 fun x hx => by
    obtain ⟨q, hq, rfl⟩ := (mem_take_iff (by omega)).1 hx
    rw [h3 q hq]; rfl
  have e0 : cnt p l k = k := by unfold cnt; rw [hf, List.length_take]; omega
  have e : cnt p l (k + 1) = k := by rw [cnt_drop h1 h2, e0]
  refine ⟨e, ⟨h1, rfl, rfl, ?_, by omega⟩⟩
  rw [e, take_next h1, List.filter_append, hf, List.filter_cons, h2]; simp
theorem DI_.fin (h : DI_ p l j m) (hj : ¬ j < l.length) : m.take (cnt p l j) = l.filter (fun x => !p x) ∧ cnt p l j = (l.filter (fun x => !p x)).length := by
  have := h.jle
  have e : l.take j = l := List.take_of_length_le (by omega)
  refine ⟨by rw [h.done_, e], by unfold cnt; rw [e]⟩
end
theorem le_lay {cs d : List V} {k : Nat} (h : k ≤ cs.length) : k ≤ (layV cs k d).length := by
  unfold layV; simp only [List.length_append, List.length_take]; omega
theorem take_lay {cs d : List V} {k : Nat} (h : k ≤ cs.length) : List.take k (layV cs k d) = List.take k cs := by
  unfold layV
  rw [List.append_assoc, List.take_append_of_le_length (by rw [List.length_take]; omega), List.take_take, Nat.min_self]
theorem lay_set {T : Type} [Inhabited T] {enc : T → V} {s : Nat} (hs : ∀ x, (enc x).cs.length = s) : ∀ (l : List T) (k : Nat) (x : T), k < l.length → layV (cells (l.map enc)) (k * s) (enc x).cs = cells ((l.set k x).map enc)
  | [], k, x, h => absurd h (Nat.not_lt_zero _)
  | y :: l, 0, x, _ => by
    rw [Nat.zero_mul, List.map_cons, cells_cons, List.set_cons_zero, List.map_cons, cells_cons, lay0, hs, List.drop_left' (hs y)]
  | y :: l, k + 1, x, h => by
    rw [List.map_cons, cells_cons, List.set_cons_succ, List.map_cons, cells_cons, show (k + 1) * s = (enc y).cs.length + k * s by rw [hs, Nat.succ_mul]; omega, lay_app, lay_set hs l k x (by simpa using h)]
theorem lay_setr {l : List TRoute} {k : Nat} {x : TRoute} (h : k < l.length) : layV (cells (l.map encRoute)) (k * 4) [.int .i64 x.dot.node, .int .i64 x.dot.epoch, .int .i64 x.dot.n, .str x.filter] = cells ((l.set k x).map encRoute) := lay_set (s := 4) (fun _ => rfl) l k x h
attribute [local irreducible] DW SeqD DV DOp DC DVX DVJ
theorem sv_del_dc {p : Prop} (h : p := by first | exact sv | exact ⟨hcl, rfl, hl⟩ | fail) : p := h
section
attribute [local push_cast 2000] encRoute encRoute_eta cells_encr cells_encRoute lay_setr Nat.sub_zero
theorem del_dc (l : List TRoute) (g : FuncId) (v : Value) (n : Nat) (c1 c2 c3 : V) (p : TRoute → Bool) (F : Own) : ((∀ (a b c : Int) (fl : Str) (F : Own), True → DC Tryz.prog g [.agg [.int .i64 a, .int .i64 b, .int .i64 c, .str fl], c1, c2, c3] (([] : Own) ++ F) fun d G => d = .bool (p ⟨⟨a, b, c⟩, fl⟩) ∧ G = [] ++ F) ∧ n = l.length ∧ l.length ≤ 1000000000) → DC Tryz.prog 72 [.ar v n, .fn (.func g) [] [c1, c2, c3]] ([.arr 4 v (cells (l.map encRoute))] ++ F) fun d G => ∃ v2, d = .ar v2 (l.filter (fun x => !p x)).length ∧ G = .arr 4 v2 (cells ((l.filter (fun x => !p x)).map encRoute)) :: F := by
  intro hA
  obtain ⟨hcl, hn, hl⟩ := hA
  refine DC.bodyS (n_ := 42) (show Tryz.prog.funcs[72]? = some Tryz.f72 by kernel_rfl) rfl rfl (by rfl) ?_
  simp only [env0, List.cons_append, List.nil_append]
  have kw := ksIs [0, 1, 4, 5, 6, 7, 12, 19, 29]
  have ow := ownIs []
  subst hn
  repeat' (first
    | ((with_reducible apply DW.preX 4); (focus (exact rfl)); (repeat (with_reducible first | refine OnA.here ?_ | refine OnA.next ?_)); refine ⟨⟨rfl, le_lay (by rw [cells_encr]; omega)⟩, fun v2 => ?_⟩; simp only [put_cons, put_nil, Nat.reduceEqDiff, ↓reduceIte, if_true, if_false, reduceCtorEq])
    | (have hst := DI_.start hk; ((with_reducible refine DW.loopB 0 (X := Nat × List TRoute) (fun x => DI_ p l x.1 x.2) (fun x => [(0, .ar v l.length), (1, .fn (.func g) [] [c1, c2, c3]), (5, .int .i64 (cnt p l x.1)), (6, .int .i64 x.1)]) (fun x => .arr 4 v (cells (x.2.map encRoute)) :: ([] : Own)) (fun x => l.length - x.1) ((k + 1, l)) ?_ ?_ ?_); exact (hst.2); (simp [Sub, get, keepL, hst.1] <;> fail); (try simp only [List.cons_append, List.nil_append]); refine pl_ ?_; intro ⟨j, m⟩ hI; (try simp only [List.cons_append, List.nil_append]); simp only at hI; have hjl := hI.jle; have hml := hI.len; have hcl2 := hI.lt))
    | refine g_ ?_
    | ((with_reducible refine And.intro ?_ ?_); (exact sv_del_dc))
    | (refine DW.cond (by rfl) ?_ ?_ <;> (first | exact i0_ | (refine ic_ ?_; intro hb)))
    | ((with_reducible refine FVg_cases ?_ ?_) <;> (intro hb; rw [hb]; revert hb; (first | exact i0_ | (refine i_ ?_; intro hb))))
    | refine k_ ?_
    | ((with_reducible refine DW.regK [0, 1, 4, 5, 6, 7, 12, 19, 29] (by kernel_rfl) ?_) <;> (refine s_ ?_))
    | ((first | ((with_reducible refine SeqD.op rfl ?_); (first | (refine DOp.slicea_ rfl rfl ?_) | (refine DOp.capa_ rfl rfl ?_) | (refine DOp.lensub_ rfl rfl ?_) | (refine DOp.copyaa2_ rfl rfl rfl ?_; (repeat (with_reducible first | refine OnA.here ?_ | refine OnA.next ?_)); (repeat (with_reducible first | refine OnA.here ?_ | refine OnA.next ?_))) | (refine DOp.copyas2_ rfl rfl rfl ?_; (repeat (with_reducible first | refine OnA.here ?_ | refine OnA.next ?_))) | (refine DOp.cleara2_ rfl rfl ?_; (repeat (with_reducible first | refine OnA.here ?_ | refine OnA.next ?_))) | (refine DOp.appsubz_ rfl rfl rfl ?_; (repeat (with_reducible first | refine OnA.here ?_ | refine OnA.next ?_))) | (refine DOp.appsub_ rfl rfl rfl ?_; (repeat (with_reducible first | refine OnA.here ?_ | refine OnA.next ?_))) | (refine p_ (idxra_dc _ _ _ _ _ _ _ _ _) ?_ (ha := by exact sv_del_dc); rintro d H1 ⟨⟨hnn, rfl⟩ | ⟨k, hk, rfl⟩, rfl⟩ <;> refine s_ ?_) | (refine q_ (hcl _ _ _ _ _) ?_ (ha := by exact sv_del_dc)) | (refine on_ ?_))) | (refine SeqD.opP rfl ?_) | (refine DOp.slicea_ rfl rfl ?_) | (refine DOp.capa_ rfl rfl ?_) | (refine DOp.lensub_ rfl rfl ?_) | (refine DOp.copyaa2_ rfl rfl rfl ?_; (repeat (with_reducible first | refine OnA.here ?_ | refine OnA.next ?_)); (repeat (with_reducible first | refine OnA.here ?_ | refine OnA.next ?_))) | (refine DOp.copyas2_ rfl rfl rfl ?_; (repeat (with_reducible first | refine OnA.here ?_ | refine OnA.next ?_))) | (refine DOp.cleara2_ rfl rfl ?_; (repeat (with_reducible first | refine OnA.here ?_ | refine OnA.next ?_))) | (refine DOp.appsubz_ rfl rfl rfl ?_; (repeat (with_reducible first | refine OnA.here ?_ | refine OnA.next ?_))) | (refine DOp.appsub_ rfl rfl rfl ?_; (repeat (with_reducible first | refine OnA.here ?_ | refine OnA.next ?_)))) <;> (refine s_ ?_))
    | (refine p_ (idxra_dc _ _ _ _ _ _ _ _ _) ?_ (ha := by exact sv_del_dc); rintro d H1 ⟨⟨hnn, rfl⟩ | ⟨k, hk, rfl⟩, rfl⟩ <;> refine s_ ?_)
    | (refine q_ (hcl _ _ _ _ _) ?_ (ha := by exact sv_del_dc))
    | refine o_ ?_
    | refine f_ ?_
    | with_reducible intro b)
  all_goals first
  | (rw [flt_all hnn]; refine ⟨_, _, le.rfl_, ⟨_, rfl, rfl⟩, ?_⟩; (exact sub_); done)
  | (have hj : j < l.length := by omega
     have e := cnt_keep (p := p) (l := l) (j := j) hj (by rw [← hI.at_ hj]; exact hb)
     refine ⟨(j + 1, m.set (cnt p l j) (m.getD j default)), hI.keep hj hb, by simp only; omega, by simp [Sub, get, e], ?_⟩; (exact sub_); done)
  | (have hj : j < l.length := by omega
     have e := cnt_drop (p := p) (l := l) (j := j) hj (by rw [← hI.at_ hj]; exact hb)
     refine ⟨(j + 1, m), hI.drop hj hb, by simp only; omega, by simp [Sub, get, e], ?_⟩; (exact sub_); done)
  | (obtain ⟨e1, e2⟩ := hI.fin (by omega)
     have e3 := cells_tk (enc := encRoute) (s := 4) (fun _ => rfl) m (cnt p l j)
     rw [e1] at e3
     rw [e3, ← take_lay (d := ((List.replicate (l.length - cnt p l j) [V.int .i64 0, V.int .i64 0, V.int .i64 0, V.str []]).flatten)) (by rw [cells_encr]; omega), ← e2]
     refine ⟨_, _, le.rfl_, ⟨_, rfl, rfl⟩, ?_⟩; (exact sub_); done)
end
end Go.Proofs.YtfamfamgopchnaaGreatDoor
/- A route goes. -/
namespace Go.Proofs.YtfamfamgopchnaaGreatDoor
open Go.RowKit
set_option linter.unusedSimpArgs false
set_option linter.unusedVariables false
set_option linter.unusedSectionVars false
set_option maxHeartbeats 4000000
set_option maxRecDepth 100000


def fencedP (node epoch : Int) (x : TFence) : Bool := x.node == node && decide (epoch ≤ x.epoch)
theorem any_fenced (fe : List TFence) (node epoch : Int) : fe.any (fencedP node epoch) = fencedL fe node epoch := by
  rw [Bool.eq_iff_iff, fenced_iff, List.any_eq_true]
  simp only [fencedP, Bool.and_eq_true, beq_iff_eq, decide_eq_true_eq]
theorem DW.frzRO {P : Program} {n : Nat} {Q : Exit → Env → Own → Prop} {e e' : Env} {H H' : Own} {v : Value} {l : List V} (h : OnA H v fun sz cs C => cs = cells l ∧ 0 < sz ∧ (∀ y ∈ l, y.n = sz) ∧ CvE v l e e' ∧ CvO v l (C (.tail sz v)) H' ∧ DW P n .ret Q e' H') : DW P n .ret Q e H := by
  obtain ⟨sz, cs, L1, L2, h0, h1, h2, h3, h4, h5, h6⟩ := h
  exact DW.frzO v ⟨sz, cs, L1, L2, h0, h1, h2, h3, h4, H', h5, h6⟩
attribute [local irreducible] DW SeqD DV DOp DC DVX DVJ
theorem sv_contr_dc {p : Prop} (h : p := by first | exact sv | exact ⟨hcl, hl⟩ | fail) : p := h
theorem contr_dc (l : List TRoute) (g : FuncId) (c1 c2 c3 : V) (p : TRoute → Bool) (F : Own) : ((∀ (a b c : Int) (fl : Str) (F : Own), True → DC Tryz.prog g [.agg [.int .i64 a, .int .i64 b, .int .i64 c, .str fl], c1, c2, c3] (([] : Own) ++ F) fun d G => d = .bool (p ⟨⟨a, b, c⟩, fl⟩) ∧ G = [] ++ F) ∧ l.length ≤ 1000000000) → DC Tryz.prog 77 [.sl (l.map encRoute), .fn (.func g) [] [c1, c2, c3]] (([] : Own) ++ F) fun d G => d = .bool (l.any p) ∧ G = [] ++ F := by
  intro hA
  obtain ⟨hcl, hl⟩ := hA
  refine DC.bodyS (n_ := 9) (show Tryz.prog.funcs[77]? = some Tryz.f77 by kernel_rfl) rfl rfl (by rfl) ?_
  simp only [env0, List.cons_append, List.nil_append]
  have kw := ksIs [0, 1, 4]
  have ow := ownIs []
  repeat' (first
    | refine g_ ?_
    | ((with_reducible refine And.intro ?_ ?_); (exact sv_contr_dc))
    | (refine DW.cond (by rfl) ?_ ?_ <;> (first | exact i0_ | (refine ic_ ?_; intro hb)))
    | ((with_reducible refine FVg_cases ?_ ?_) <;> (intro hb; rw [hb]; revert hb; (first | exact i0_ | (refine i_ ?_; intro hb))))
    | refine r_ ?_
    | refine k_ ?_
    | (refine p_ (idxr_dc _ _ _ _ _ _ _) ?_ (ha := by exact sv_contr_dc); rintro d H1 ⟨⟨hnn, rfl⟩ | ⟨k, hk, rfl⟩, rfl⟩ <;> refine s_ ?_)
    | refine o_ ?_
    | refine f_ ?_
    | with_reducible intro b)
  all_goals first
  | (have e := any_no hnn
     rw [e]; (first | exact fin_ | refine finq_ ?_); done)
  | (have e := any_yes (p := p) hk.1 hk.2.1
     refine ⟨_, _, ?_, ⟨rfl, rfl⟩, ?_⟩; rotate_left; (exact sub_); (exact le.of_eq (by rw [e]; simp)); done)
theorem sv_contf_dc {p : Prop} (h : p := by first | exact sv | exact ⟨hcl, hl⟩ | fail) : p := h
theorem contf_dc (l : List TFence) (g : FuncId) (c1 c2 : V) (p : TFence → Bool) (F : Own) : ((∀ (a b : Int) (F : Own), True → DC Tryz.prog g [.agg [.int .i64 a, .int .i64 b], c1, c2] (([] : Own) ++ F) fun d G => d = .bool (p ⟨a, b⟩) ∧ G = [] ++ F) ∧ l.length ≤ 1000000000) → DC Tryz.prog 90 [.sl (l.map encFence), .fn (.func g) [] [c1, c2]] (([] : Own) ++ F) fun d G => d = .bool (l.any p) ∧ G = [] ++ F := by
  intro hA
  obtain ⟨hcl, hl⟩ := hA
  refine DC.bodyS (n_ := 9) (show Tryz.prog.funcs[90]? = some Tryz.f90 by kernel_rfl) rfl rfl (by rfl) ?_
  simp only [env0, List.cons_append, List.nil_append]
  have kw := ksIs [0, 1, 4]
  have ow := ownIs []
  repeat' (first
    | refine g_ ?_
    | ((with_reducible refine And.intro ?_ ?_); (exact sv_contf_dc))
    | (refine DW.cond (by rfl) ?_ ?_ <;> (first | exact i0_ | (refine ic_ ?_; intro hb)))
    | ((with_reducible refine FVg_cases ?_ ?_) <;> (intro hb; rw [hb]; revert hb; (first | exact i0_ | (refine i_ ?_; intro hb))))
    | refine r_ ?_
    | refine k_ ?_
    | (refine p_ (idxf_dc _ _ _ _ _ _) ?_ (ha := by exact sv_contf_dc); rintro d H1 ⟨⟨hnn, rfl⟩ | ⟨k, hk, rfl⟩, rfl⟩ <;> refine s_ ?_)
    | refine o_ ?_
    | refine f_ ?_
    | with_reducible intro b)
  all_goals first
  | (have e := any_no hnn
     rw [e]; (first | exact fin_ | refine finq_ ?_); done)
  | (have e := any_yes (p := p) hk.1 hk.2.1
     refine ⟨_, _, ?_, ⟨rfl, rfl⟩, ?_⟩; rotate_left; (exact sub_); (exact le.of_eq (by rw [e]; simp)); done)
theorem fcl_dc (node epoch a b : Int) (F : Own) : (True) → DC Tryz.prog 91 [.agg [.int .i64 a, .int .i64 b], .sp [.int .i64 node], .sp [.int .i64 epoch]] (([] : Own) ++ F) fun d G => d = .bool (fencedP node epoch ⟨a, b⟩) ∧ G = [] ++ F := by
  intro hA
  refine DC.bodyS (n_ := 15) (show Tryz.prog.funcs[91]? = some Tryz.f91 by kernel_rfl) rfl rfl (by rfl) ?_
  simp only [env0, List.cons_append, List.nil_append]
  have kw := ksIs [0, 1, 2, 3, 4]
  have ow := ownIs []
  repeat' (first
    | refine g_ ?_
    | ((with_reducible refine And.intro ?_ ?_); (exact sv))
    | (refine DW.cond (by rfl) ?_ ?_ <;> (first | exact i0_ | (refine ic_ ?_; intro hb)))
    | ((with_reducible refine FVg_cases ?_ ?_) <;> (intro hb; rw [hb]; revert hb; (first | exact i0_ | (refine i_ ?_; intro hb))))
    | refine r_ ?_
    | refine k_ ?_
    | refine o_ ?_
    | refine f_ ?_
    | with_reducible intro b)
  all_goals
    refine ⟨_, _, le.of_eq ?_, ⟨rfl, rfl⟩, SubP.refl⟩
    unfold fencedP
    simp_all
theorem contF_dc (l : List TFence) (node epoch : Int) (F : Own) : l.length ≤ 1000000000 → DC Tryz.prog 90 [.sl (l.map encFence), .fn (.func 91) [] [.sp [.int .i64 node], .sp [.int .i64 epoch]]] (([] : Own) ++ F) fun d G => d = .bool (fencedL l node epoch) ∧ G = [] ++ F := fun h => by
  rw [← any_fenced]
  exact contf_dc l 91 _ _ (fencedP node epoch) F ⟨fun a b F _ => fcl_dc node epoch a b F trivial, h⟩
theorem pfenced_dc (se : List TDot) (fe : List TFence) (ro : List TRoute) (ce : List TCell) (node epoch : Int) (F : Own) : (fe.length ≤ 1000000000) → DC Tryz.prog 30 [.agg [.sl (se.map encDot), .sl (fe.map encFence), .sl (ro.map encRoute), .sl (ce.map encCell)], .int .i64 node, .int .i64 epoch] (([] : Own) ++ F) fun d G => d = .bool (fencedL fe node epoch) ∧ G = [] ++ F := by
  intro hA
  have hf := hA
  refine DC.bodyS (n_ := 11) (show Tryz.prog.funcs[30]? = some Tryz.f30 by kernel_rfl) rfl rfl (by rfl) ?_
  simp only [env0, List.cons_append, List.nil_append]
  have kw := ksIs [0, 1, 2, 3, 4, 5, 6]
  have ow := ownIs []
  repeat' (first
    | refine g_ ?_
    | ((with_reducible refine And.intro ?_ ?_); (exact sv))
    | (refine DW.cond (by rfl) ?_ ?_ <;> (first | exact i0_ | (refine ic_ ?_; intro hb)))
    | ((with_reducible refine FVg_cases ?_ ?_) <;> (intro hb; rw [hb]; revert hb; (first | exact i0_ | (refine i_ ?_; intro hb))))
    | refine r_ ?_
    | refine k_ ?_
    | (refine q_ (contF_dc _ _ _ _) ?_)
    | refine o_ ?_
    | refine f_ ?_
    | with_reducible intro b)
  (first | exact fin_ | refine finq_ ?_)
  all_goals rfl
theorem pfencedv_dc (se : List TDot) (fe : List TFence) (ce : List TCell) (v1 v3 v4 : Value) (n3 : Nat) (node epoch : Int) (F : Own) : (fe.length ≤ 1000000000) → DC Tryz.prog 30 [.agg [.gs v1 (se.map encDot), .sl (fe.map encFence), .ar v3 n3, .gs v4 (ce.map encCell)], .int .i64 node, .int .i64 epoch] (([] : Own) ++ F) fun d G => d = .bool (fencedL fe node epoch) ∧ G = [] ++ F := by
  intro hA
  have hf := hA
  refine DC.bodyS (n_ := 11) (show Tryz.prog.funcs[30]? = some Tryz.f30 by kernel_rfl) rfl rfl (by rfl) ?_
  simp only [env0, List.cons_append, List.nil_append]
  have kw := ksIs [0, 1, 2, 3, 4, 5, 6]
  have ow := ownIs []
  repeat' (first
    | refine g_ ?_
    | ((with_reducible refine And.intro ?_ ?_); (exact sv))
    | (refine DW.cond (by rfl) ?_ ?_ <;> (first | exact i0_ | (refine ic_ ?_; intro hb)))
    | ((with_reducible refine FVg_cases ?_ ?_) <;> (intro hb; rw [hb]; revert hb; (first | exact i0_ | (refine i_ ?_; intro hb))))
    | refine r_ ?_
    | refine k_ ?_
    | (refine q_ (contF_dc _ _ _ _) ?_)
    | refine o_ ?_
    | refine f_ ?_
    | with_reducible intro b)
  (first | exact fin_ | refine finq_ ?_)
  all_goals rfl
theorem contA_dc (l : List TRoute) (node epoch : Int) (f : Str) (F : Own) : l.length ≤ 1000000000 → DC Tryz.prog 77 [.sl (l.map encRoute), .fn (.func 73) [] [.sp [.int .i64 node], .sp [.int .i64 epoch], .sp [.str f]]] (([] : Own) ++ F) fun d G => d = .bool (l.any fun r => ownB r node epoch f) ∧ G = [] ++ F := fun h =>
  contr_dc l 73 _ _ _ (fun r => ownB r node epoch f) F ⟨fun a b c fl F _ => ownA_dc node epoch f a b c fl F trivial, h⟩
theorem delA_dc (l : List TRoute) (v : Value) (n : Nat) (node epoch : Int) (f : Str) (F : Own) : (n = l.length ∧ l.length ≤ 1000000000) → DC Tryz.prog 72 [.ar v n, .fn (.func 73) [] [.sp [.int .i64 node], .sp [.int .i64 epoch], .sp [.str f]]] ([.arr 4 v (cells (l.map encRoute))] ++ F) fun d G => ∃ v2, d = .ar v2 (withoutR l node epoch f).length ∧ G = .arr 4 v2 (cells ((withoutR l node epoch f).map encRoute)) :: F := fun h =>
  del_dc l 73 v n _ _ _ (fun r => ownB r node epoch f) F ⟨fun a b c fl F _ => ownA_dc node epoch f a b c fl F trivial, h.1, h.2⟩
theorem contD_dc (l : List TRoute) (node epoch : Int) (f : Str) (F : Own) : l.length ≤ 1000000000 → DC Tryz.prog 77 [.sl (l.map encRoute), .fn (.func 76) [] [.sp [.int .i64 node], .sp [.int .i64 epoch], .sp [.str f]]] (([] : Own) ++ F) fun d G => d = .bool (l.any fun r => ownB r node epoch f) ∧ G = [] ++ F := fun h =>
  contr_dc l 76 _ _ _ (fun r => ownB r node epoch f) F ⟨fun a b c fl F _ => ownD_dc node epoch f a b c fl F trivial, h⟩
theorem delD_dc (l : List TRoute) (v : Value) (n : Nat) (node epoch : Int) (f : Str) (F : Own) : (n = l.length ∧ l.length ≤ 1000000000) → DC Tryz.prog 72 [.ar v n, .fn (.func 76) [] [.sp [.int .i64 node], .sp [.int .i64 epoch], .sp [.str f]]] ([.arr 4 v (cells (l.map encRoute))] ++ F) fun d G => ∃ v2, d = .ar v2 (withoutR l node epoch f).length ∧ G = .arr 4 v2 (cells ((withoutR l node epoch f).map encRoute)) :: F := fun h =>
  del_dc l 76 v n _ _ _ (fun r => ownB r node epoch f) F ⟨fun a b c fl F _ => ownD_dc node epoch f a b c fl F trivial, h.1, h.2⟩
theorem sv_pdrop_dc {p : Prop} (h : p := by first | exact sv | exact hL | exact ⟨hL, ht1, ht2⟩ | fail) : p := h
theorem pdrop_dc (se : List TDot) (fe : List TFence) (ro : List TRoute) (ce : List TCell) (node epoch : Int) (f : Str) (F : Own) : ((se.length ≤ 1000000000 ∧ fe.length ≤ 1000000000 ∧ ro.length ≤ 1000000000 ∧ ce.length ≤ 1000000000 ∧ ∀ k, k < ce.length → (ce.getD k default).payload.length ≤ 1000000000) ∧ -1000000000000 ≤ topM se node epoch ∧ topM se node epoch ≤ 1000000000000) → DC Tryz.prog 24 [.agg [.sl (se.map encDot), .sl (fe.map encFence), .sl (ro.map encRoute), .sl (ce.map encCell)], .int .i64 node, .int .i64 epoch, .str f] (([] : Own) ++ F) fun d G => (ro.any (fun r => ownB r node epoch f) = false ∧ d = .agg [.sl ((se).map encDot), .sl ((fe).map encFence), .sl ((ro).map encRoute), .sl ((ce).map encCell)] ∨ ro.any (fun r => ownB r node epoch f) = true ∧ d = .agg [.sl ((addM se ⟨node, epoch, topM se node epoch + 1⟩).map encDot), .sl ((fe).map encFence), .sl ((withoutR ro node epoch f).map encRoute), .sl ((ce).map encCell)]) ∧ G = [] ++ F := by
  intro hA
  obtain ⟨hL, ht1, ht2⟩ := hA
  refine DC.bodyS (n_ := 31) (show Tryz.prog.funcs[24]? = some Tryz.f24 by kernel_rfl) rfl rfl (by rfl) ?_
  simp only [env0, List.cons_append, List.nil_append]
  have kw := ksIs [0, 1, 2, 3, 4, 5, 6, 7, 8, 9, 15]
  have ow := ownIs [4]
  have rw_ := rsIs [.cell 8 35]
  have hr := hL.2.2.1
  repeat' (first
    | ((with_reducible apply DW.frzRO); (repeat (with_reducible first | apply OnA.here | apply OnA.next)); refine ⟨rfl, by decide, (by intro y hy; obtain ⟨x, _, rfl⟩ := List.mem_map.1 hy; rfl), ?_, ?_, ?_⟩; (focus (repeat (first | exact CvE.nil | apply CvE.cons (Cv.hit _) | apply CvE.cons (Cv.rfl _)))); (focus ((repeat (first | apply CvO.blk _ (by repeat (first | exact CvL.nil | apply CvL.cons (Cv.hit _) | apply CvL.cons (Cv.rfl _))) | apply CvO.keep | exact CvO.rfl_ _ _ _)))))
    | refine g_ ?_
    | ((with_reducible refine And.intro ?_ ?_); (exact sv_pdrop_dc))
    | (refine DW.cond (by rfl) ?_ ?_ <;> (first | exact i0_ | (refine ic_ ?_; intro hb)))
    | ((with_reducible refine FVg_cases ?_ ?_) <;> (intro hb; rw [hb]; revert hb; (first | exact i0_ | (refine i_ ?_; intro hb))))
    | refine r_ ?_
    | refine k_ ?_
    | (refine q_ (contD_dc _ _ _ _ _) ?_ (ha := by exact sv_pdrop_dc))
    | (refine p_ (copy_dc _ _ _ _ _) ?_ (ha := by exact sv_pdrop_dc); rintro d H1 ⟨v1, v2, v3, v4, rfl, rfl⟩ <;> refine s_ ?_)
    | (refine p_ (next_dc _ _ _ _ _ _ _) ?_ (ha := by exact sv_pdrop_dc); rintro d H1 ⟨v2, v3, v4, rfl, rfl⟩ <;> refine s_ ?_)
    | (refine p_ (delD_dc _ _ _ _ _ _ _) ?_ (ha := by exact sv_pdrop_dc); rintro d H1 ⟨v5, rfl, rfl⟩ <;> refine s_ ?_)
    | refine o_ ?_
    | refine f_ ?_
    | ((fail_if_success (have zz := b1)); with_reducible intro b1)
    | ((fail_if_success (have zz := b2)); with_reducible intro b2)
    | with_reducible intro b)
  all_goals first
  | (have hq := hb
     rw [hb]; (refine ⟨_, _, ?_, ⟨.inl ⟨rfl, rfl⟩, rfl⟩, ?_⟩; rotate_left; (exact sub_); refine le.agg ?_; (repeat (first | exact Les.nil | refine Les.cons le.rfl_ ?_ | refine Les.cons (le.gs rfl) ?_ | refine Les.cons (le.gs List.map_nil.symm) ?_ | refine Les.cons (le.agg ?_) ?_)); done))
  | (have hq := hb
     rw [hb]; (refine ⟨_, _, ?_, ⟨.inr ⟨rfl, rfl⟩, rfl⟩, ?_⟩; rotate_left; (exact sub_); refine le.agg ?_; (repeat (first | exact Les.nil | refine Les.cons le.rfl_ ?_ | refine Les.cons (le.gs rfl) ?_ | refine Les.cons (le.gs List.map_nil.symm) ?_ | refine Les.cons (le.agg ?_) ?_)); done))
end Go.Proofs.YtfamfamgopchnaaGreatDoor
