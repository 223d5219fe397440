/- Tables held against one another; what the laws on routes ask first. -/
import Derived.Test.YtfamfamgopchnaaGreatDoorPu1x
import Derived.KernelRfl
namespace Go.Proofs.YtfamfamgopchnaaGreatDoor
open Go.RowKit
set_option linter.unusedSimpArgs false
set_option linter.unusedVariables false
set_option linter.unusedSectionVars false
set_option maxHeartbeats 4000000
set_option maxRecDepth 100000


theorem dot_ext {x y : TDot} (h : x.node = y.node ∧ x.epoch = y.epoch ∧ x.n = y.n) : x = y := by
  obtain ⟨a, b, c⟩ := x; obtain ⟨a', b', c'⟩ := y
  simp only at h; obtain ⟨rfl, rfl, rfl⟩ := h; rfl
theorem fence_ext {x y : TFence} (h : x.node = y.node ∧ x.epoch = y.epoch) : x = y := by
  obtain ⟨a, b⟩ := x; obtain ⟨a', b'⟩ := y
  simp only at h; obtain ⟨rfl, rfl⟩ := h; rfl
theorem route_ext {x y : TRoute} (h : x.dot.node = y.dot.node ∧ x.dot.epoch = y.dot.epoch ∧ x.dot.n = y.dot.n ∧ x.filter = y.filter) : x = y := by
  obtain ⟨⟨a, b, c⟩, d⟩ := x; obtain ⟨⟨a', b', c'⟩, d'⟩ := y
  simp only at h; obtain ⟨rfl, rfl, rfl, rfl⟩ := h; rfl
theorem map_u8_inj {a b : Str} : (a.map u8 = b.map u8) ↔ a = b := by
  constructor
  · intro h
    have := congrArg (List.map byteOf) h
    rwa [bytes_back, bytes_back] at this
  · rintro rfl; rfl
/-- All elements ahead of k are alike. -/
def eqK {α : Type} [Inhabited α] (l m : List α) (k : Nat) : Prop := ∀ j, j < k → l.getD j default = m.getD j default
theorem eqK_0 {α : Type} [Inhabited α] (l m : List α) : eqK l m 0 := fun j h => absurd h (Nat.not_lt_zero _)
theorem eqK_s {α : Type} [Inhabited α] {l m : List α} {k : Nat} (h : eqK l m k) (e : l.getD k default = m.getD k default) : eqK l m (k + 1) := fun j hj => by
  rcases Nat.lt_or_eq_of_le (Nat.le_of_lt_succ hj) with h1 | rfl
  · exact h j h1
  · exact e
theorem eqK_all {α : Type} [Inhabited α] {l m : List α} {k : Nat} (h : eqK l m k) (hk : l.length ≤ k) (hl : l.length = m.length) : l = m := by
  apply List.ext_getElem hl
  intro i h1 h2
  have := h i (by omega)
  rwa [getD_get l i h1, getD_get m i h2] at this
theorem tab_ext {a b : TTable} (h1 : a.seen = b.seen) (h2 : a.fences = b.fences) (h3 : a.routes = b.routes) (h4 : a.cells = b.cells) : decide (a = b) = true := by
  obtain ⟨_, _, _, _⟩ := a; obtain ⟨_, _, _, _⟩ := b
  simp only at h1 h2 h3 h4; subst h1; subst h2; subst h3; subst h4; exact decide_eq_true rfl
def sameC (a b : TCell) : Bool := decide (a = b)
theorem sameC_t {a b : TCell} (h : sameC a b = true) : a = b := of_decide_eq_true h
theorem sameC_f {a b : TCell} (h : sameC a b = false) : a ≠ b := of_decide_eq_false h
attribute [local irreducible] DW SeqD DV DOp DC DVX DVJ
section
attribute [local push_cast 2000] bytes_back bytes_are
theorem samec_dc (a1 a2 a3 a4 a5 a6 : Int) (a7 a8 : Str) (a9 : Int) (a10 : Bool) (b1 b2 b3 b4 b5 b6 : Int) (b7 b8 : Str) (b9 : Int) (b10 : Bool) (F : Own) : (True) → DC Tryz.prog 83 [.agg [.int .i64 a1, .int .i64 a2, .int .i64 a3, .int .i64 a4, .int .i64 a5, .int .i64 a6, .str a7, .sl (a8.map u8), .int .i64 a9, .bool a10], .agg [.int .i64 b1, .int .i64 b2, .int .i64 b3, .int .i64 b4, .int .i64 b5, .int .i64 b6, .str b7, .sl (b8.map u8), .int .i64 b9, .bool b10]] (([] : Own) ++ F) fun d G => d = .bool (sameC (⟨⟨a1, a2, a3⟩, ⟨a4, a5, a6⟩, a7, a8, a9, a10⟩ : TCell) (⟨⟨b1, b2, b3⟩, ⟨b4, b5, b6⟩, b7, b8, b9, b10⟩ : TCell)) ∧ G = [] ++ F := by
  intro hA
  refine DC.bodyS (n_ := 47) (show Tryz.prog.funcs[83]? = some Tryz.f83 by kernel_rfl) rfl rfl (by rfl) ?_
  simp only [env0, List.cons_append, List.nil_append]
  have kw := ksIs [0, 1, 2, 3, 4]
  have ow := ownIs []
  repeat' (first
    | refine g_ ?_
    | ((with_reducible refine And.intro ?_ ?_); (exact sv))
    | (refine DW.cond (by rfl) ?_ ?_ <;> (first | exact i0_ | (refine ic_ ?_; intro hb)))
    | ((with_reducible refine FVg_cases ?_ ?_) <;> (intro hb; rw [hb]; revert hb; (first | exact i0_ | (refine i_ ?_; intro hb))))
    | refine r_ ?_
    | refine k_ ?_
    | refine o_ ?_
    | refine f_ ?_
    | with_reducible intro b)
  all_goals first
  | ((refine ⟨_, _, le.of_eq ?_, ⟨rfl, rfl⟩, ?_⟩); (unfold sameC; congr 1; rw [Bool.eq_iff_iff]; simp_all [and_assoc]); (exact sub_); done)
end
section
attribute [local push_cast 2000] encDot encFence encRoute encCell
theorem same_dc (a b : TTable) (F : Own) : (Lite 1000000000 a ∧ Lite 1000000000 b) → DC Tryz.prog 26 [.agg [.sl (a.seen.map encDot), .sl (a.fences.map encFence), .sl (a.routes.map encRoute), .sl (a.cells.map encCell)], .agg [.sl (b.seen.map encDot), .sl (b.fences.map encFence), .sl (b.routes.map encRoute), .sl (b.cells.map encCell)]] (([] : Own) ++ F) fun d G => d = .bool (decide (a = b)) ∧ G = [] ++ F := by
  intro hA
  obtain ⟨hLa, hLb⟩ := hA
  refine DC.bodyS (n_ := 116) (show Tryz.prog.funcs[26]? = some Tryz.f26 by kernel_rfl) rfl rfl (by rfl) ?_
  simp only [env0, List.cons_append, List.nil_append]
  have kw := ksIs [0, 1, 2, 3, 4, 5, 6, 7, 8, 42, 47, 60, 65, 78, 83, 96, 101, 115]
  have ow := ownIs []
  have dw6 := drIs 6 [] [1, 4, 6, 9]
  have dw11 := drIs 11 [] [1, 4, 6, 9]
  have dw16 := drIs 16 [] [1, 4, 6, 9]
  have dw21 := drIs 21 [] [1, 4, 6, 9, 10]
  have := hLa.s; have := hLa.f; have := hLa.r; have := hLa.c; have := hLb.s; have := hLb.f; have := hLb.r; have := hLb.c
  repeat' (first
    | ((with_reducible refine DW.loopB 0 (X := Nat) (fun x => x ≤ a.seen.length ∧ eqK a.seen b.seen x) (fun x => [(2, .sp [.sl (a.seen.map encDot), .sl (a.fences.map encFence), .sl (a.routes.map encRoute), .sl (a.cells.map encCell)]), (3, .sp [.sl (b.seen.map encDot), .sl (b.fences.map encFence), .sl (b.routes.map encRoute), .sl (b.cells.map encCell)]), (5, .int .i64 x)]) (fun x => ([] : Own)) (fun x => a.seen.length - x) (0) ?_ ?_ ?_); exact (⟨Nat.zero_le _, eqK_0 _ _⟩); (simp [Sub, get, keepL] <;> fail); (try simp only [List.cons_append, List.nil_append]); refine pl_ ?_; intro i ⟨hi, ei⟩; (try simp only [List.cons_append, List.nil_append]))
    | ((with_reducible refine DW.loopB 2 (X := Nat) (fun x => x ≤ a.fences.length ∧ eqK a.fences b.fences x) (fun x => [(2, .sp [.sl (a.seen.map encDot), .sl (a.fences.map encFence), .sl (a.routes.map encRoute), .sl (a.cells.map encCell)]), (3, .sp [.sl (b.seen.map encDot), .sl (b.fences.map encFence), .sl (b.routes.map encRoute), .sl (b.cells.map encCell)]), (6, .int .i64 x)]) (fun x => ([] : Own)) (fun x => a.fences.length - x) (0) ?_ ?_ ?_); exact (⟨Nat.zero_le _, eqK_0 _ _⟩); (simp [Sub, get, keepL] <;> fail); (try simp only [List.cons_append, List.nil_append]); refine pl_ ?_; intro j ⟨hj, ej⟩; (try simp only [List.cons_append, List.nil_append]))
    | ((with_reducible refine DW.loopB 4 (X := Nat) (fun x => x ≤ a.routes.length ∧ eqK a.routes b.routes x) (fun x => [(2, .sp [.sl (a.seen.map encDot), .sl (a.fences.map encFence), .sl (a.routes.map encRoute), .sl (a.cells.map encCell)]), (3, .sp [.sl (b.seen.map encDot), .sl (b.fences.map encFence), .sl (b.routes.map encRoute), .sl (b.cells.map encCell)]), (7, .int .i64 x)]) (fun x => ([] : Own)) (fun x => a.routes.length - x) (0) ?_ ?_ ?_); exact (⟨Nat.zero_le _, eqK_0 _ _⟩); (simp [Sub, get, keepL] <;> fail); (try simp only [List.cons_append, List.nil_append]); refine pl_ ?_; intro k ⟨hk, ek⟩; (try simp only [List.cons_append, List.nil_append]))
    | ((with_reducible refine DW.loopB 6 (X := Nat) (fun x => x ≤ a.cells.length ∧ eqK a.cells b.cells x) (fun x => [(2, .sp [.sl (a.seen.map encDot), .sl (a.fences.map encFence), .sl (a.routes.map encRoute), .sl (a.cells.map encCell)]), (3, .sp [.sl (b.seen.map encDot), .sl (b.fences.map encFence), .sl (b.routes.map encRoute), .sl (b.cells.map encCell)]), (8, .int .i64 x)]) (fun x => ([] : Own)) (fun x => a.cells.length - x) (0) ?_ ?_ ?_); exact (⟨Nat.zero_le _, eqK_0 _ _⟩); (simp [Sub, get, keepL] <;> fail); (try simp only [List.cons_append, List.nil_append]); refine pl_ ?_; intro q ⟨hq, eq⟩; (try simp only [List.cons_append, List.nil_append]))
    | refine g_ ?_
    | ((with_reducible refine And.intro ?_ ?_); (exact sv))
    | (refine DW.cond (by rfl) ?_ ?_ <;> (first | exact i0_ | (refine ic_ ?_; intro hb)))
    | ((with_reducible first | refine FVg_cases ?_ ?_ | refine FDg_cases ?_ ?_) <;> (intro hb; rw [hb]; revert hb; (first | exact i0_ | (refine i_ ?_; intro hb))))
    | refine r_ ?_
    | refine d_ ?_
    | refine k_ ?_
    | ((refine dm_ ?_); (first | (refine v_ (samec_dc _ _ _ _ _ _ _ _ _ _ _ _ _ _ _ _ _ _ _ _ _) ?_)))
    | refine vo_ ?_
    | (refine q_ (samec_dc _ _ _ _ _ _ _ _ _ _ _ _ _ _ _ _ _ _ _ _ _) ?_)
    | refine o_ ?_
    | refine f_ ?_
    | refine vm_ ?_
    | with_reducible intro b)
  all_goals first
  | ((rw [tab_ext (eqK_all ei (by omega) (by omega)) (eqK_all ej (by omega) (by omega)) (eqK_all ek (by omega) (by omega)) (eqK_all eq (by omega) (by omega))]; (first | exact fin_ | refine finq_ ?_); done))
  | (refine ⟨q + 1, ⟨by omega, eqK_s eq ?_⟩, by omega, by simp [Sub, get], ?_⟩; rotate_left; (exact sub_); (first | exact sameC_t hb | exact dot_ext hb | exact fence_ext hb | exact route_ext hb); done)
  | (refine ⟨k + 1, ⟨by omega, eqK_s ek ?_⟩, by omega, by simp [Sub, get], ?_⟩; rotate_left; (exact sub_); (first | exact sameC_t hb | exact dot_ext hb | exact fence_ext hb | exact route_ext hb); done)
  | (refine ⟨j + 1, ⟨by omega, eqK_s ej ?_⟩, by omega, by simp [Sub, get], ?_⟩; rotate_left; (exact sub_); (first | exact sameC_t hb | exact dot_ext hb | exact fence_ext hb | exact route_ext hb); done)
  | (refine ⟨i + 1, ⟨by omega, eqK_s ei ?_⟩, by omega, by simp [Sub, get], ?_⟩; rotate_left; (exact sub_); (first | exact sameC_t hb | exact dot_ext hb | exact fence_ext hb | exact route_ext hb); done)
  | ((rw [show decide (a = b) = false from decide_eq_false (fun e => by subst e; first | (exact absurd rfl hb) | (exact absurd rfl (sameC_f hb)) | (simp at hb; done) | omega)]; (first | exact fin_ | refine finq_ ?_); done))
end
section
attribute [local push_cast 2000] encDeed
theorem few10_dc (l : List TDeed) (F : Own) : (True) → DC Tryz.prog 21 [.sl (l.map encDeed)] (([] : Own) ++ F) fun d G => (d = .bool true ∧ (l.length ≤ 20 ∧ ∀ k, (l.getD k default).x.length ≤ 30) ∧ G = [] ++ F) ∨ (d = .bool false ∧ G = [] ++ F) := by
  intro hA
  refine DC.bodyS (n_ := 20) (show Tryz.prog.funcs[21]? = some Tryz.f21 by kernel_rfl) rfl rfl (by rfl) ?_
  simp only [env0, List.cons_append, List.nil_append]
  have kw := ksIs [0, 2, 3, 6, 10, 19]
  have ow := ownIs []
  repeat' (first
    | ((with_reducible refine DW.loopB 0 (X := Nat) (fun x => x ≤ l.length ∧ ∀ j, j < x → (l.getD j default).x.length ≤ 30) (fun x => [(0, .sl (l.map encDeed)), (3, .int .i64 x)]) (fun x => ([] : Own)) (fun x => l.length - x) (0) ?_ ?_ ?_); exact (⟨Nat.zero_le _, fun j h => absurd h (Nat.not_lt_zero _)⟩); (simp [Sub, get, keepL] <;> fail); (try simp only [List.cons_append, List.nil_append]); refine pl_ ?_; intro k ⟨hk, hj⟩; (try simp only [List.cons_append, List.nil_append]); try simp only at hk hj)
    | refine g_ ?_
    | ((with_reducible refine And.intro ?_ ?_); (exact sv))
    | (refine DW.cond (by rfl) ?_ ?_ <;> (first | exact i0_ | (refine ic_ ?_; intro hb)))
    | ((with_reducible refine FVg_cases ?_ ?_) <;> (intro hb; rw [hb]; revert hb; (first | exact i0_ | (refine i_ ?_; intro hb))))
    | refine r_ ?_
    | refine k_ ?_
    | refine o_ ?_
    | refine f_ ?_
    | with_reducible intro b)
  all_goals first
  | (exfalso; omega)
  | (refine ⟨_, _, le.rfl_, .inr ⟨rfl, rfl⟩, ?_⟩; (exact sub_); done)
  | (refine ⟨k + 1, ⟨by omega, fun j hj2 => ?_⟩, ?_, ?_, ?_⟩; (rcases Nat.lt_succ_iff_lt_or_eq.1 hj2 with h | rfl; (exact hj j h); (omega)); (omega); (simp [Sub, get] <;> fail); (try dsimp only); (exact sub_); done)
  | (refine ⟨_, _, le.rfl_, .inl ⟨rfl, ⟨by omega, fun j => ?_⟩, rfl⟩, ?_⟩; rotate_left; (exact sub_); (by_cases h : j < k; (exact hj j h); (rw [List.getD_eq_getElem?_getD, List.getElem?_eq_none (by omega)]; exact Nat.zero_le _)); done)
end
theorem story10_dc (l : List TDeed) (F : Own) : (l.length ≤ 20 ∧ ∀ d ∈ l, deedOk d) → DC Tryz.prog 22 [.sl (l.map encDeed)] (([] : Own) ++ F) fun d G => d = .sl ((tablesM l).map encTable) ∧ G = [] ++ F := by
  intro hA
  have hA0 := hA
  refine DC.bodyS (n_ := 5) (show Tryz.prog.funcs[22]? = some Tryz.f22 by kernel_rfl) rfl rfl (by rfl) ?_
  simp only [env0, List.cons_append, List.nil_append]
  have kw := ksIs [0, 2]
  have ow := ownIs []
  repeat' (first
    | refine g_ ?_
    | ((with_reducible refine And.intro ?_ ?_); (exact sv))
    | (refine DW.cond (by rfl) ?_ ?_ <;> (first | exact i0_ | (refine ic_ ?_; intro hb)))
    | ((with_reducible refine FVg_cases ?_ ?_) <;> (intro hb; rw [hb]; revert hb; (first | exact i0_ | (refine i_ ?_; intro hb))))
    | refine r_ ?_
    | refine k_ ?_
    | (refine q_ (tables_dc _ _) ?_)
    | refine o_ ?_
    | refine f_ ?_
    | with_reducible intro b)
  (first | exact fin_ | refine finq_ ?_)
  all_goals rfl
end Go.Proofs.YtfamfamgopchnaaGreatDoor
