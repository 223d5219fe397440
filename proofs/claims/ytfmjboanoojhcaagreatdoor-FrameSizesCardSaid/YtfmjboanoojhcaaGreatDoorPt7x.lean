/- A deed is put among those that were seen. -/
import Derived.Test.YtfmjboanoojhcaaGreatDoorPt6x
import Derived.KernelRfl
import Derived.Shelf.Unicode.DecodeSlow
namespace Go.Proofs.YtfmjboanoojhcaaGreatDoor
open Go.RowKit
set_option linter.unusedSimpArgs false
set_option linter.unusedVariables false
set_option linter.unusedSectionVars false
set_option maxHeartbeats 4000000
set_option maxRecDepth 100000


theorem cells_n {l : List TDot} {k : Nat} (h : k < l.length) : (cells (l.map encDot)).getD (k * 3 + 2) V.any = .int .i64 (l.getD k default).n := by
  rw [cells_at (sz := 3) _ k 2 (dot_n l) (by simpa using h) (by decide)]
  simp [List.getD_eq_getElem?_getD, h, encDot, V.cell]
attribute [local irreducible] DW SeqD DV DOp DC DVX DVJ
section
attribute [local push_cast 2000] encDot dot_eta half_eq cells_dots cells_dot
end
section
attribute [local push_cast 2000] encDot dot_eta cells_dots cells_dot cells_setn cells_n
end
end Go.Proofs.YtfmjboanoojhcaaGreatDoor
/- The next deed. -/
namespace Go.Proofs.YtfmjboanoojhcaaGreatDoor
open Go.RowKit
set_option linter.unusedSimpArgs false
set_option linter.unusedVariables false
set_option linter.unusedSectionVars false
set_option maxHeartbeats 4000000
set_option maxRecDepth 100000


attribute [local irreducible] DW SeqD DV DOp DC DVX DVJ
end Go.Proofs.YtfmjboanoojhcaaGreatDoor
/- Which routes are one's own, which epochs are fenced. -/
namespace Go.Proofs.YtfmjboanoojhcaaGreatDoor
open Go.RowKit
set_option linter.unusedSimpArgs false
set_option linter.unusedVariables false
set_option linter.unusedSectionVars false
set_option maxHeartbeats 4000000
set_option maxRecDepth 100000


theorem encRoute_eta (x : TRoute) : (⟨⟨x.dot.node, x.dot.epoch, x.dot.n⟩, x.filter⟩ : TRoute) = x := rfl
theorem encFence_eta (x : TFence) : (⟨x.node, x.epoch⟩ : TFence) = x := rfl
theorem cells_encr (l : List TRoute) : (cells (l.map encRoute)).length = l.length * 4 := len_all (s := 4) (fun _ => rfl) l
theorem part_at {T : Type} [Inhabited T] {enc : T → V} {s : Nat} (hs : ∀ x, (enc x).cs.length = s) : ∀ (l : List T) (k : Nat), k < l.length → List.take s (List.drop (k * s) (cells (l.map enc))) = (enc (l.getD k default)).cs
  | [], k, h => absurd h (Nat.not_lt_zero _)
  | x :: l, 0, _ => by rw [Nat.zero_mul, List.drop_zero, List.map_cons, cells_cons, ← hs x, List.take_left']; rfl; rfl
  | x :: l, k + 1, h => by
    rw [List.map_cons, cells_cons, show (k + 1) * s = (enc x).cs.length + k * s by rw [hs, Nat.succ_mul]; omega, List.drop_append, List.drop_of_length_le (by omega), Nat.add_sub_cancel_left, List.nil_append, part_at hs l k (by simpa using h)]
    rfl
theorem cells_encRoute {l : List TRoute} {k : Nat} (h : k < l.length) : List.take 4 (List.drop (k * 4) (cells (l.map encRoute))) = [.int .i64 (l.getD k default).dot.node, .int .i64 (l.getD k default).dot.epoch, .int .i64 (l.getD k default).dot.n, .str (l.getD k default).filter] := part_at (s := 4) (fun _ => rfl) l k h
theorem cells_encFence {l : List TFence} {k : Nat} (h : k < l.length) : List.take 2 (List.drop (k * 2) (cells (l.map encFence))) = [.int .i64 (l.getD k default).node, .int .i64 (l.getD k default).epoch] := part_at (s := 2) (fun _ => rfl) l k h
attribute [local irreducible] DW SeqD DV DOp DC DVX DVJ
section
attribute [local push_cast 2000] encRoute encRoute_eta cells_encr cells_encRoute
end
section
attribute [local push_cast 2000] encRoute encRoute_eta cells_encr cells_encRoute
end
section
attribute [local push_cast 2000] encFence encFence_eta cells_encf cells_encFence
theorem idxf_dc (l : List TFence) (g : FuncId) (c1 c2 : V) (p : TFence → Bool) (F : Own) : ((∀ (a b : Int) (F : Own), True → DC Tryz.prog g [.agg [.int .i64 a, .int .i64 b], c1, c2] (([] : Own) ++ F) fun d G => d = .bool (p ⟨a, b⟩) ∧ G = [] ++ F) ∧ l.length ≤ 1000000000) → DC Tryz.prog 208 [.sl (l.map encFence), .fn (.func g) [] [c1, c2]] (([] : Own) ++ F) fun d G => ((∀ q, q < l.length → p (l.getD q default) = false) ∧ d = .int .i64 (-1) ∨ ∃ k : Nat, (k < l.length ∧ p (l.getD k default) = true ∧ ∀ q, q < k → p (l.getD q default) = false) ∧ d = .int .i64 k) ∧ G = [] ++ F := by
  intro hA
  obtain ⟨hcl, hl⟩ := hA
  refine DC.bodyS (n_ := 19) (show Tryz.prog.funcs[208]? = some Tryz.f208 by kernel_rfl) rfl rfl (by rfl) ?_
  simp only [env0, List.cons_append, List.nil_append]
  have kw := ksIs [0, 1, 4, 5, 7, 8, 9, 16]
  have ow := ownIs []
  repeat' (first
    | ((with_reducible refine DW.loopB 0 (X := Nat) (fun x => x ≤ l.length ∧ ∀ q, q < x → p (l.getD q default) = false) (fun x => [(0, .sl (l.map encFence)), (1, .fn (.func g) [] [c1, c2]), (7, .int .i64 l.length), (8, .int .i64 x)]) (fun x => ([] : Own)) (fun x => l.length - x) (0) ?_ ?_ ?_); exact (⟨Nat.zero_le _, fun q h => absurd h (Nat.not_lt_zero _)⟩); (simp [Sub, get, keepL] <;> fail); (try simp only [List.cons_append, List.nil_append]); refine pl_ ?_; intro k ⟨hk, ha⟩; (try simp only [List.cons_append, List.nil_append]))
    | refine g_ ?_
    | ((with_reducible refine And.intro ?_ ?_); (exact sv))
    | (refine DW.cond (by rfl) ?_ ?_ <;> (first | exact i0_ | (refine ic_ ?_; intro hb)))
    | ((with_reducible refine FVg_cases ?_ ?_) <;> (intro hb; rw [hb]; revert hb; (first | exact i0_ | (refine i_ ?_; intro hb))))
    | refine r_ ?_
    | refine k_ ?_
    | (refine q_ (hcl _ _ _) ?_)
    | refine o_ ?_
    | refine f_ ?_
    | with_reducible intro b)
  all_goals first
  | (refine ⟨_, _, le.rfl_, ⟨.inr ⟨k, ⟨by omega, hb, ha⟩, rfl⟩, rfl⟩, ?_⟩; (exact sub_); done)
  | (refine ⟨k + 1, ⟨by omega, fun q hq => ?_⟩, by omega, by simp [Sub, get], ?_⟩; (by_cases hqk : q = k; (subst hqk; exact hb); exact ha q (by omega)); (exact sub_); done)
  | (refine ⟨_, _, le.rfl_, ⟨.inl ⟨fun q hq => ha q (by omega), rfl⟩, rfl⟩, ?_⟩; (exact sub_); done)
end
end Go.Proofs.YtfmjboanoojhcaaGreatDoor
/- What is dropped of a row. -/
namespace Go.Proofs.YtfmjboanoojhcaaGreatDoor
open Go.RowKit
set_option linter.unusedSimpArgs false
set_option linter.unusedVariables false
set_option linter.unusedSectionVars false
set_option maxHeartbeats 4000000
set_option maxRecDepth 100000


theorem any_no {T : Type} [Inhabited T] {l : List T} {p : T → Bool} (h : ∀ q, q < l.length → p (l.getD q default) = false) : l.any p = false := by
  rw [List.any_eq_false]
  intro x hx
  obtain ⟨q, hq, rfl⟩ := mem_getD hx
  rw [h q hq]; simp
theorem any_yes {T : Type} [Inhabited T] {l : List T} {p : T → Bool} {k : Nat} (hk : k < l.length) (h : p (l.getD k default) = true) : l.any p = true := List.any_eq_true.2 ⟨_, getD_mem hk, h⟩
def cnt {T : Type} (p : T → Bool) (l : List T) (j : Nat) : Nat := ((l.take j).filter (fun x => !p x)).length
structure DI_ {T : Type} (p : T → Bool) (l : List T) (j : Nat) (m : List T) : Prop where
  jle : j ≤ l.length
  len : m.length = l.length
  rest : m.drop j = l.drop j
  done_ : m.take (cnt p l j) = (l.take j).filter (fun x => !p x)
  lt : cnt p l j < j
section
variable {T : Type} [Inhabited T] {p : T → Bool} {l m : List T} {j k : Nat}
theorem take_next {l : List T} {j : Nat} (h : j < l.length) : l.take (j + 1) = l.take j ++ [l.getD j default] := by
  rw [List.take_add_one, List.getD_eq_getElem?_getD, List.getElem?_eq_getElem h]; rfl
theorem cnt_keep (h : j < l.length) (hp : p (l.getD j default) = false) : cnt p l (j + 1) = cnt p l j + 1 := by
  unfold cnt; rw [take_next h, List.filter_append, List.length_append, List.filter_cons, hp]; rfl
theorem cnt_drop (h : j < l.length) (hp : p (l.getD j default) = true) : cnt p l (j + 1) = cnt p l j := by
  unfold cnt; rw [take_next h, List.filter_append, List.length_append, List.filter_cons, hp]; rfl
theorem DI_.at_ (h : DI_ p l j m) (hj : j < l.length) : m.getD j default = l.getD j default := by
  have h1 := h.rest
  rw [List.drop_eq_getElem_cons (by rw [h.len]; exact hj), List.drop_eq_getElem_cons hj] at h1
  injection h1 with h1 _
  rw [getD_get m j (by rw [h.len]; exact hj), getD_get l j hj, h1]
theorem drop_more_ {l m : List T} {j : Nat} (h : m.drop j = l.drop j) : m.drop (j + 1) = l.drop (j + 1) := by
  rw [← List.drop_drop (i := 1) (j := j) (l := m), ← List.drop_drop (i := 1) (j := j) (l := l), h]
theorem DI_.drop (h : DI_ p l j m) (hj : j < l.length) (hp : p (m.getD j default) = true) : DI_ p l (j + 1) m := by
  rw [h.at_ hj] at hp
  have e := cnt_drop hj hp
  refine ⟨hj, h.len, drop_more_ h.rest, ?_, by have := h.lt; omega⟩
  rw [e, h.done_, take_next hj, List.filter_append, List.filter_cons, hp]; simp
theorem DI_.keep (h : DI_ p l j m) (hj : j < l.length) (hp : p (m.getD j default) = false) : DI_ p l (j + 1) (m.set (cnt p l j) (m.getD j default)) := by
  have hat := h.at_ hj
  rw [hat] at hp ⊢
  have e := cnt_keep hj hp
  have hlt := h.lt
  refine ⟨hj, by rw [List.length_set]; exact h.len, ?_, ?_, by omega⟩
  · rw [List.drop_set_of_lt (by omega)]; exact drop_more_ h.rest
  · rw [e, take_next (by rw [List.length_set, h.len]; have := h.jle; omega), List.take_set_of_le (Nat.le_refl _), h.done_, take_next hj, List.filter_append]
    congr 1
    rw [List.filter_cons, hp, List.getD_eq_getElem?_getD, List.getElem?_set_self (by rw [h.len]; have := h.jle; omega)]
    rfl
theorem DI_.start (hk : k < l.length ∧ p (l.getD k default) = true ∧ ∀ q, q < k → p (l.getD q default) = false) : cnt p l (k + 1) = k ∧ DI_ p l (k + 1) l := by
  obtain ⟨h1, h2, h3⟩ := hk
  have hf : (l.take k).filter (fun x => !p x) = l.take k := List.filter_eq_self.2 fun x hx => by
    obtain ⟨q, hq, rfl⟩ := (mem_take_iff (by omega)).1 hx
    rw [h3 q hq]; rfl
  have e0 : cnt p l k = k := by unfold cnt; rw [hf, List.length_take]; omega
  have e : cnt p l (k + 1) = k := by rw [cnt_drop h1 h2, e0]
  refine ⟨e, ⟨h1, rfl, rfl, ?_, by omega⟩⟩
  rw [e, take_next h1, List.filter_append, hf, List.filter_cons, h2]; simp
theorem DI_.fin (h : DI_ p l j m) (hj : ¬ j < l.length) : m.take (cnt p l j) = l.filter (fun x => !p x) ∧ cnt p l j = (l.filter (fun x => !p x)).length := by
  have := h.jle
  have e : l.take j = l := List.take_of_length_le (by omega)
  refine ⟨by rw [h.done_, e], by unfold cnt; rw [e]⟩
end
theorem lay_set {T : Type} [Inhabited T] {enc : T → V} {s : Nat} (hs : ∀ x, (enc x).cs.length = s) : ∀ (l : List T) (k : Nat) (x : T), k < l.length → layV (cells (l.map enc)) (k * s) (enc x).cs = cells ((l.set k x).map enc)
  | [], k, x, h => absurd h (Nat.not_lt_zero _)
  | y :: l, 0, x, _ => by
    rw [Nat.zero_mul, List.map_cons, cells_cons, List.set_cons_zero, List.map_cons, cells_cons, lay0, hs, List.drop_left' (hs y)]
  | y :: l, k + 1, x, h => by
    rw [List.map_cons, cells_cons, List.set_cons_succ, List.map_cons, cells_cons, show (k + 1) * s = (enc y).cs.length + k * s by rw [hs, Nat.succ_mul]; omega, lay_app, lay_set hs l k x (by simpa using h)]
theorem lay_setr {l : List TRoute} {k : Nat} {x : TRoute} (h : k < l.length) : layV (cells (l.map encRoute)) (k * 4) [.int .i64 x.dot.node, .int .i64 x.dot.epoch, .int .i64 x.dot.n, .str x.filter] = cells ((l.set k x).map encRoute) := lay_set (s := 4) (fun _ => rfl) l k x h
attribute [local irreducible] DW SeqD DV DOp DC DVX DVJ
section
attribute [local push_cast 2000] encRoute encRoute_eta cells_encr cells_encRoute lay_setr Nat.sub_zero
end
end Go.Proofs.YtfmjboanoojhcaaGreatDoor
/- A route goes. -/
namespace Go.Proofs.YtfmjboanoojhcaaGreatDoor
open Go.RowKit
set_option linter.unusedSimpArgs false
set_option linter.unusedVariables false
set_option linter.unusedSectionVars false
set_option maxHeartbeats 4000000
set_option maxRecDepth 100000


def fencedP (node epoch : Int) (x : TFence) : Bool := x.node == node && decide (epoch ≤ x.epoch)
theorem any_fenced (fe : List TFence) (node epoch : Int) : fe.any (fencedP node epoch) = fencedL fe node epoch := by
  rw [Bool.eq_iff_iff, fenced_iff, List.any_eq_true]
  simp only [fencedP, Bool.and_eq_true, beq_iff_eq, decide_eq_true_eq]
attribute [local irreducible] DW SeqD DV DOp DC DVX DVJ
theorem sv_contf_dc {p : Prop} (h : p := by first | exact sv | exact ⟨hcl, hl⟩ | fail) : p := h
theorem contf_dc (l : List TFence) (g : FuncId) (c1 c2 : V) (p : TFence → Bool) (F : Own) : ((∀ (a b : Int) (F : Own), True → DC Tryz.prog g [.agg [.int .i64 a, .int .i64 b], c1, c2] (([] : Own) ++ F) fun d G => d = .bool (p ⟨a, b⟩) ∧ G = [] ++ F) ∧ l.length ≤ 1000000000) → DC Tryz.prog 172 [.sl (l.map encFence), .fn (.func g) [] [c1, c2]] (([] : Own) ++ F) fun d G => d = .bool (l.any p) ∧ G = [] ++ F := by
  intro hA
  obtain ⟨hcl, hl⟩ := hA
  refine DC.bodyS (n_ := 9) (show Tryz.prog.funcs[172]? = some Tryz.f172 by kernel_rfl) rfl rfl (by rfl) ?_
  simp only [env0, List.cons_append, List.nil_append]
  have kw := ksIs [0, 1, 4]
  have ow := ownIs []
  repeat' (first
    | refine g_ ?_
    | ((with_reducible refine And.intro ?_ ?_); (exact sv_contf_dc))
    | (refine DW.cond (by rfl) ?_ ?_ <;> (first | exact i0_ | (refine ic_ ?_; intro hb)))
    | ((with_reducible refine FVg_cases ?_ ?_) <;> (intro hb; rw [hb]; revert hb; (first | exact i0_ | (refine i_ ?_; intro hb))))
    | refine r_ ?_
    | refine k_ ?_
    | (refine p_ (idxf_dc _ _ _ _ _ _) ?_ (ha := by exact sv_contf_dc); rintro d H1 ⟨⟨hnn, rfl⟩ | ⟨k, hk, rfl⟩, rfl⟩ <;> refine s_ ?_)
    | refine o_ ?_
    | refine f_ ?_
    | with_reducible intro b)
  all_goals first
  | (have e := any_no hnn
     rw [e]; (first | exact fin_ | refine finq_ ?_); done)
  | (have e := any_yes (p := p) hk.1 hk.2.1
     refine ⟨_, _, ?_, ⟨rfl, rfl⟩, ?_⟩; rotate_left; (exact sub_); (exact le.of_eq (by rw [e]; simp)); done)
theorem fcl_dc (node epoch a b : Int) (F : Own) : (True) → DC Tryz.prog 173 [.agg [.int .i64 a, .int .i64 b], .sp [.int .i64 node], .sp [.int .i64 epoch]] (([] : Own) ++ F) fun d G => d = .bool (fencedP node epoch ⟨a, b⟩) ∧ G = [] ++ F := by
  intro hA
  refine DC.bodyS (n_ := 15) (show Tryz.prog.funcs[173]? = some Tryz.f173 by kernel_rfl) rfl rfl (by rfl) ?_
  simp only [env0, List.cons_append, List.nil_append]
  have kw := ksIs [0, 1, 2, 3, 4]
  have ow := ownIs []
  repeat' (first
    | refine g_ ?_
    | ((with_reducible refine And.intro ?_ ?_); (exact sv))
    | (refine DW.cond (by rfl) ?_ ?_ <;> (first | exact i0_ | (refine ic_ ?_; intro hb)))
    | ((with_reducible refine FVg_cases ?_ ?_) <;> (intro hb; rw [hb]; revert hb; (first | exact i0_ | (refine i_ ?_; intro hb))))
    | refine r_ ?_
    | refine k_ ?_
    | refine o_ ?_
    | refine f_ ?_
    | with_reducible intro b)
  all_goals
    refine ⟨_, _, le.of_eq ?_, ⟨rfl, rfl⟩, SubP.refl⟩
    unfold fencedP
    simp_all
theorem contF_dc (l : List TFence) (node epoch : Int) (F : Own) : l.length ≤ 1000000000 → DC Tryz.prog 172 [.sl (l.map encFence), .fn (.func 173) [] [.sp [.int .i64 node], .sp [.int .i64 epoch]]] (([] : Own) ++ F) fun d G => d = .bool (fencedL l node epoch) ∧ G = [] ++ F := fun h => by
  rw [← any_fenced]
  exact contf_dc l 173 _ _ (fencedP node epoch) F ⟨fun a b F _ => fcl_dc node epoch a b F trivial, h⟩
theorem pfenced_dc (se : List TDot) (fe : List TFence) (ro : List TRoute) (ce : List TCell) (node epoch : Int) (F : Own) : (fe.length ≤ 1000000000) → DC Tryz.prog 104 [.agg [.sl (se.map encDot), .sl (fe.map encFence), .sl (ro.map encRoute), .sl (ce.map encCell)], .int .i64 node, .int .i64 epoch] (([] : Own) ++ F) fun d G => d = .bool (fencedL fe node epoch) ∧ G = [] ++ F := by
  intro hA
  have hf := hA
  refine DC.bodyS (n_ := 11) (show Tryz.prog.funcs[104]? = some Tryz.f104 by kernel_rfl) rfl rfl (by rfl) ?_
  simp only [env0, List.cons_append, List.nil_append]
  have kw := ksIs [0, 1, 2, 3, 4, 5, 6]
  have ow := ownIs []
  repeat' (first
    | refine g_ ?_
    | ((with_reducible refine And.intro ?_ ?_); (exact sv))
    | (refine DW.cond (by rfl) ?_ ?_ <;> (first | exact i0_ | (refine ic_ ?_; intro hb)))
    | ((with_reducible refine FVg_cases ?_ ?_) <;> (intro hb; rw [hb]; revert hb; (first | exact i0_ | (refine i_ ?_; intro hb))))
    | refine r_ ?_
    | refine k_ ?_
    | (refine q_ (contF_dc _ _ _ _) ?_)
    | refine o_ ?_
    | refine f_ ?_
    | with_reducible intro b)
  (first | exact fin_ | refine finq_ ?_)
  all_goals rfl
end Go.Proofs.YtfmjboanoojhcaaGreatDoor
/- A fence among fences. -/
namespace Go.Proofs.YtfmjboanoojhcaaGreatDoor
open Go.RowKit
set_option linter.unusedSimpArgs false
set_option linter.unusedVariables false
set_option linter.unusedSectionVars false
set_option maxHeartbeats 4000000
set_option maxRecDepth 100000


attribute [local irreducible] DW SeqD DV DOp DC DVX DVJ
section
attribute [local push_cast 2000] encFence encFence_eta half_eq cells_encf cells_encFence
end
section
attribute [local push_cast 2000] encRoute encRoute_eta cells_encr cells_encRoute
end
section
attribute [local push_cast 2000] encRoute encRoute_eta cells_encr cells_encRoute lay_setr Nat.sub_zero
end
end Go.Proofs.YtfmjboanoojhcaaGreatDoor
/- A fence. -/
namespace Go.Proofs.YtfmjboanoojhcaaGreatDoor
open Go.RowKit
set_option linter.unusedSimpArgs false
set_option linter.unusedVariables false
set_option linter.unusedSectionVars false
set_option maxHeartbeats 4000000
set_option maxRecDepth 100000


theorem cells_fe {l : List TFence} {k : Nat} (h : k < l.length) : (cells (l.map encFence)).getD (k * 2 + 1) V.any = .int .i64 (l.getD k default).epoch := by
  rw [cells_at (sz := 2) _ k 1 (fun y hy => by obtain ⟨x, _, rfl⟩ := List.mem_map.1 hy; rfl) (by simpa using h) (by decide)]
  simp [List.getD_eq_getElem?_getD, h, encFence, V.cell]
theorem cells_setf : ∀ (l : List TFence) (k : Nat) (n : Int), k < l.length → layV (cells (l.map encFence)) (k * 2 + 1) [.int .i64 n] = cells ((l.set k ⟨(l.getD k default).node, n⟩).map encFence)
  | [], k, n, h => absurd h (Nat.not_lt_zero _)
  | d :: l, 0, n, _ => rfl
  | d :: l, k + 1, n, h => by
    have := cells_setf l k n (by simpa using h)
    rw [List.getD_cons_succ, List.set_cons_succ, List.map_cons, List.map_cons, cells_cons, cells_cons, ← this]
    have e : (k + 1) * 2 + 1 = (encFence d).cs.length + (k * 2 + 1) := by show _ = 2 + _; omega
    rw [e, lay_app]
attribute [local irreducible] DW SeqD DV DOp DC DVX DVJ
theorem ppair_dc (node epoch : Int) (F : Own) : (True) → DC Tryz.prog 165 [.int .i64 node, .int .i64 epoch] (([] : Own) ++ F) fun d G => d = .bool (pairB node epoch) ∧ G = [] ++ F := by
  intro hA
  refine DC.bodyS (n_ := 15) (show Tryz.prog.funcs[165]? = some Tryz.f165 by kernel_rfl) rfl rfl (by rfl) ?_
  simp only [env0, List.cons_append, List.nil_append]
  have kw := ksIs [0, 1, 4]
  have ow := ownIs []
  repeat' (first
    | refine g_ ?_
    | ((with_reducible refine And.intro ?_ ?_); (exact sv))
    | (refine DW.cond (by rfl) ?_ ?_ <;> (first | exact i0_ | (refine ic_ ?_; intro hb)))
    | ((with_reducible refine FVg_cases ?_ ?_) <;> (intro hb; rw [hb]; revert hb; (first | exact i0_ | (refine i_ ?_; intro hb))))
    | refine r_ ?_
    | refine k_ ?_
    | refine o_ ?_
    | refine f_ ?_
    | with_reducible intro b)
  all_goals
    refine ⟨_, _, le.of_eq ?_, ⟨rfl, rfl⟩, SubP.refl⟩
    unfold pairB
    simp_all <;> omega
section
attribute [local push_cast 2000] encFence encFence_eta cells_encf cells_encFence cells_fe cells_setf
end
end Go.Proofs.YtfmjboanoojhcaaGreatDoor
/- Texts of plain runes are checked. -/
namespace Go.Proofs.YtfmjboanoojhcaaGreatDoor
open Go.RowKit
set_option linter.unusedSimpArgs false
set_option linter.unusedVariables false
set_option linter.unusedSectionVars false
set_option maxHeartbeats 4000000
set_option maxRecDepth 100000


/-! What is known of a global table. -/
def OnK (H : Own) (b : Nat) (G : List V → Prop) : Prop := ∃ cs, Ent.know b cs ∈ H ∧ G cs
theorem OnK.here {H : Own} {b : Nat} {cs : List V} {G : List V → Prop} (h : G cs) : OnK (.know b cs :: H) b G := ⟨cs, List.mem_cons_self .., h⟩
theorem OnK.next {H : Own} {b : Nat} {e : Ent} {G : List V → Prop} (h : OnK H b G) : OnK (e :: H) b G := let ⟨cs, h1, h2⟩ := h; ⟨cs, List.mem_cons_of_mem _ h1, h2⟩
theorem OnK_id {H : Own} {b : Nat} {G : List V → Prop} (h : OnK H b G) : OnK H b G := h
theorem DOp.loadk_ {P : Program} {o : Oper} {f : Operand → V} {H : Own} {K : V → Own → Prop} {t : TypeId} {x : Operand} {b off : Nat} (hop : o.op = .load t x) (hx : f x = .raw (.pointer (some ⟨b, off, none⟩))) (h : OnK H b fun cs => partS (ty P t) (cs.drop off) 0 ∧ K (partV (ty P t) (cs.drop off) 0) H) : DOp P o f H K := by
  obtain ⟨cs, hm, hp, hk⟩ := h
  refine DOp.step fun a w hs hr => ?_
  have hv := hr x (by simp [hop, Op.operands])
  rw [hx] at hv
  have hv : a.eval x = .pointer (some ⟨b, off, none⟩) := by generalize a.eval x = v at hv; cases hv; rfl
  have hh := hs.holds _ hm
  obtain ⟨v, e1, e2⟩ := loadVar_run (P := P) (S := stable w H) (w := w) (t := t) (b := ⟨b, off, none⟩) (cs := cs.drop off) rfl (fun k hk => by
    rw [List.length_drop] at hk
    exact (hh (off + k) (by omega)).1.1) (fun k hk => by
    rw [List.length_drop] at hk
    have := (hh (off + k) (by omega)).2
    simpa [List.getD_eq_getElem?_getD, List.getElem?_drop] using this) hp
  refine ⟨v, w, _, _, ?_, ⟨hs, .refl _ _⟩, e2, hk⟩
  unfold execOp
  rw [hop]
  simp [Instr.loadAt, hv, Instr.sureAddr, e1]
def firstC : List V := (List.range 256).map fun c => .int .u8 (Go.Lib.firstT c)
def accC : List V := ((List.range 16).map fun i => [V.int .u8 (Go.Lib.accLo i), V.int .u8 (Go.Lib.accHi i)]).flatten
abbrev knF : Ent := .know 1 firstC
abbrev knA : Ent := .know 2 accC
theorem first_195 : (List.drop 195 firstC).getD 0 V.any = .int .u8 2 := by kernel_rfl
theorem first_len : firstC.length = 256 := by kernel_rfl
theorem acc_0 : List.take 2 (List.drop 0 accC) = [.int .u8 128, .int .u8 191] := by kernel_rfl
theorem acc_0' : List.take 2 accC = [.int .u8 128, .int .u8 191] := by kernel_rfl
theorem acc_len : accC.length = 32 := by kernel_rfl

theorem dE1 : Int.fdiv 2 (2 ^ min 4 IntKind.u8.bits) = 0 := by decide
theorem dE2 : IntKind.i64.wrap (IntKind.u8.wrap ↑(BitVec.ofInt IntKind.u8.bits 2 &&& BitVec.ofInt IntKind.u8.bits 7).toNat) = 2 := by decide
theorem dE3 : IntKind.i32.wrap ↑(BitVec.ofInt IntKind.i32.bits (IntKind.i32.wrap (IntKind.i32.wrap (IntKind.u8.wrap ↑(BitVec.ofInt IntKind.u8.bits 195 &&& BitVec.ofInt IntKind.u8.bits 31).toNat) * 2 ^ min 6 IntKind.i32.bits)) ||| BitVec.ofInt IntKind.i32.bits (IntKind.i32.wrap (IntKind.u8.wrap ↑(BitVec.ofInt IntKind.u8.bits 169 &&& BitVec.ofInt IntKind.u8.bits 63).toNat))).toNat = 233 := by decide
/-! Texts of plain runes. -/
def goodT : List UInt8 → Bool
  | [] => true
  | [c] => decide (c ≠ 0) && decide (c < 128)
  | c :: d :: l => if c = 195 then decide (d = 169) && goodT l else decide (c ≠ 0) && decide (c < 128) && goodT (d :: l)
attribute [local irreducible] DW SeqD DV DOp DC DVX DVJ
section
attribute [local push_cast 2000] u8 first_195 first_len acc_0 acc_0' acc_len dE1 dE2 dE3
end
end Go.Proofs.YtfmjboanoojhcaaGreatDoor
