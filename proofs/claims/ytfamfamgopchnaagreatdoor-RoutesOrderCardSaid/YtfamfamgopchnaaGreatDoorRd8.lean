/- A cell where it belongs. -/
import Derived.Test.YtfamfamgopchnaaGreatDoorRd7
import Derived.Test.YtfamfamgopchnaaGreatDoorRd4
import Derived.KernelRfl
namespace Go.Proofs.YtfamfamgopchnaaGreatDoor
open Go.RowKit
set_option linter.unusedSimpArgs false
set_option linter.unusedVariables false
set_option linter.unusedSectionVars false
set_option maxHeartbeats 4000000
set_option maxRecDepth 100000
attribute [local irreducible] DW SeqD DV DOp DC DVX


def newerM (a b : TCell) : Bool := newerDS a.dot a.stamp b.dot b.stamp
def placeC (ce : List TCell) (f : Str) : Nat := firstK (fun i => !Op.bytesLess (ce.getD i default).topic f) ce.length 0
def cellInM (ce : List TCell) (c : TCell) : List TCell :=
  if placeC ce c.topic < ce.length ∧ (ce.getD (placeC ce c.topic) default).topic = c.topic then
    if newerM (ce.getD (placeC ce c.topic) default) c = true then ce else ce.take (placeC ce c.topic) ++ (c :: ce.drop (placeC ce c.topic + 1))
  else ce.take (placeC ce c.topic) ++ (c :: ce.drop (placeC ce c.topic))
theorem placeC_at {ce : List TCell} {f : Str} {k : Nat} (h : k < ce.length) (ha : ∀ i, 0 ≤ i → i < k → (!Op.bytesLess (ce.getD i default).topic f) = false) (hk : Op.bytesLess (ce.getD k default).topic f = false) : placeC ce f = k :=
  firstK_at _ ce.length 0 k (Nat.zero_le _) (by omega) ha (by rw [hk]; rfl)
theorem placeC_no {ce : List TCell} {f : Str} {k : Nat} (h : ce.length ≤ k) (ha : ∀ i, 0 ≤ i → i < k → (!Op.bytesLess (ce.getD i default).topic f) = false) : placeC ce f = ce.length := by
  have := firstK_no (fun i => !Op.bytesLess (ce.getD i default).topic f) ce.length 0 (fun i h1 h2 => ha i h1 (by omega))
  rw [Nat.zero_add] at this
  exact this
theorem cellIn_old {ce : List TCell} {c : TCell} {k : Nat} (hp : placeC ce c.topic = k) (h1 : k < ce.length) (h2 : (ce.getD k default).topic = c.topic) (h3 : newerM (ce.getD k default) c = true) : cellInM ce c = ce := by
  rw [cellInM, hp, if_pos ⟨h1, h2⟩, if_pos h3]
theorem cellIn_set {ce : List TCell} {c : TCell} {k : Nat} (hp : placeC ce c.topic = k) (h1 : k < ce.length) (h2 : (ce.getD k default).topic = c.topic) (h3 : newerM (ce.getD k default) c = false) : cellInM ce c = ce.take k ++ (c :: ce.drop (k + 1)) := by
  rw [cellInM, hp, if_pos ⟨h1, h2⟩, if_neg (by rw [h3]; simp)]
theorem cellIn_new {ce : List TCell} {c : TCell} {k : Nat} (hp : placeC ce c.topic = k) (h : ce.length ≤ k ∨ ¬ (ce.getD k default).topic = c.topic) : cellInM ce c = ce.take k ++ (c :: ce.drop k) := by
  rw [cellInM, hp, if_neg]
  rintro ⟨h1, h2⟩
  rcases h with h | h
  · omega
  · exact h h2
theorem cell_n1 (l : List TCell) : ∀ y ∈ l.map encCell, y.n = 10 := by intro y hy; obtain ⟨x, _, rfl⟩ := List.mem_map.1 hy; rfl
attribute [local irreducible] newerDS
theorem cellinto_dc (ce : List TCell) (c1 c2 c3 c4 c5 c6 : Int) (c7 : Str) (c8 : Str) (c9 : Int) (c10 : Bool) (F : Own) : (ce.length ≤ 1000000000) → DC Tryz.prog 168 [.sl (ce.map encCell), .agg [.int .i64 c1, .int .i64 c2, .int .i64 c3, .int .i64 c4, .int .i64 c5, .int .i64 c6, .str c7, .sl (c8.map u8), .int .i64 c9, .bool c10]] (([] : Own) ++ F) fun d G => d = .sl ((cellInM ce ⟨⟨c1, c2, c3⟩, ⟨c4, c5, c6⟩, c7, c8, c9, c10⟩).map encCell) ∧ G = [] ++ F := by
  intro hA
  have hr := hA
  refine DC.bodyS (n_ := 66) (show Tryz.prog.funcs[168]? = some Tryz.f168 by kernel_rfl) rfl rfl (by rfl) ?_
  simp only [env0, List.cons_append, List.nil_append]
  repeat' (first
    | ((with_reducible refine DW.loopB 0 (X := Nat) (fun x => x ≤ ce.length ∧ ∀ i, 0 ≤ i → i < x → (!Op.bytesLess (ce.getD i default).topic c7) = false) (fun x => [(0, .sl (ce.map encCell)), (3, .sp [.int .i64 c1, .int .i64 c2, .int .i64 c3, .int .i64 c4, .int .i64 c5, .int .i64 c6, .str c7, .sl (c8.map u8), .int .i64 c9, .bool c10]), (5, .int .i64 x)]) (fun x => ([] : Own)) (fun x => ce.length - x) (0) ?_ ?_ ?_); exact (⟨Nat.zero_le _, fun i _ h => absurd h (Nat.not_lt_zero _)⟩); (simp [Sub, get, keepL] <;> fail); (try simp only [List.cons_append, List.nil_append]); (repeat (with_reducible first | refine Pull.nil ?_ | refine Pull.cons ?_ | refine Out.here ?_ | refine Out.next ?_)); intro k ⟨hk, ha⟩; (try simp only [List.cons_append, List.nil_append]))
    | with_reducible first | refine DW.sq ?_ | refine DW.block ?_ | refine DW.skip ?_ | refine DW.exit ?_
    | ((with_reducible refine DW.ret ?_))
    | with_reducible first | refine then_n ?_ | refine then_x ?_ | refine then_r ?_ | refine blk_n ?_ | refine blk_r ?_ | refine blk_x ?_
    | with_reducible refine blk_y (by decide) ?_
    | with_reducible first | refine Next.go ?_ | refine SeqD.nil ?_ | refine DV.nil ?_
    | ((with_reducible refine And.intro ?_ ?_); (first | exact sv | (simp [encDot, encRoute, encFence, V.one]; omega) | (simp [encRoute, encDot, encFence, V.one, List.length_take, List.length_drop] <;> omega) | (refine ⟨by omega, by omega, ?_⟩; intro y hy; rcases List.mem_append.1 hy with hy | hy; (obtain ⟨x, _, rfl⟩ := List.mem_map.1 hy; rfl); (simp only [List.mem_singleton] at hy; subst hy; rfl)) | (refine ⟨by omega, by omega, ?_⟩; intro y hy; obtain ⟨x, _, rfl⟩ := List.mem_map.1 hy; first | rfl | exact ⟨rfl, rfl⟩) | (refine ⟨?_, ?_, ?_, ?_⟩ <;> first | omega | (simp only [List.length_append, List.length_singleton]; omega)) | (simp [encCell, u8, V.one]; omega) | (simp [encCell, u8, V.one, List.length_take, List.length_drop] <;> omega)))
    | with_reducible first | refine DW.ct_ ?_ | refine DW.cf_ ?_
    | (refine DW.cond (by rfl) (fun hb => ?_) (fun hb => ?_) <;> (try simp only [hbs, Int.reduceBEq, Int.reduceBNe, Int.reduceEq] at hb; try (exfalso; omega)))
    | ((first | ((with_reducible refine DW.regK [0, 1, 3, 4, 5, 19, 35, 41] (by kernel_rfl) ?_); refine SeqD.go (own := []) _ _ ?_) | ((with_reducible refine DW.drawK (id := 2) [0, 1, 3, 4, 5, 19, 35, 41] [] [9, 11] (by kernel_rfl) (by kernel_rfl) (by kernel_rfl) ?_); refine DV.go [9, 11] [] _ _ _ ?_) | ((with_reducible refine DW.drawK (id := 4) [0, 1, 3, 4, 5, 19, 35, 41] [] [9, 11] (by kernel_rfl) (by kernel_rfl) (by kernel_rfl) ?_); refine DV.go [9, 11] [] _ _ _ ?_) | ((with_reducible refine DW.drawK (id := 5) [0, 1, 3, 4, 5, 19, 35, 41] [] [3, 4, 5] (by kernel_rfl) (by kernel_rfl) (by kernel_rfl) ?_); refine DV.go [3, 4, 5] [] _ _ _ ?_) | ((with_reducible refine DW.drawK (id := 7) [0, 1, 3, 4, 5, 19, 35, 41] [3, 6, 11] [] (by kernel_rfl) (by kernel_rfl) (by kernel_rfl) ?_); refine DV.go [] [3, 6, 11] _ _ _ ?_) | ((with_reducible refine DW.drawK (id := 8) [0, 1, 3, 4, 5, 19, 35, 41] [3, 6, 10] [] (by kernel_rfl) (by kernel_rfl) (by kernel_rfl) ?_); refine DV.go [] [3, 6, 10] _ _ _ ?_) | ((first | refine Both.imp (fun hb => ?_) (fun hb => ?_) | (with_reducible first | refine FVg_cases (fun hb => ?_) (fun hb => ?_) | refine FDg_cases (fun hb => ?_) (fun hb => ?_)) <;> rw [hb]) <;> (try simp only [hbs, Int.reduceBEq, Int.reduceBNe, Int.reduceEq] at hb; try (exfalso; omega))) | (with_reducible refine ret_r rfl ?_) | ((refine ret_c [.tmp 4] (by rfl) ?_); (try (refine RetK_cell _ _ _ _ _ _ rfl ?_; (repeat (with_reducible first | refine OnB.here ?_ | refine OnB.mid ?_ | refine OnB.next ?_))))) | ((refine RetK_cell _ _ _ _ _ _ rfl ?_); (repeat (with_reducible first | refine OnB.here ?_ | refine OnB.mid ?_ | refine OnB.next ?_))) | (with_reducible refine ret_n rfl ?_) | ((with_reducible first | refine DV.mk rfl ?_ | refine DV.mkg rfl rfl ?_); (first | (apply DVop.callq_ rfl rfl rfl rfl (h1 := newer_dc _ _ _ _ _ _ _ _ _ _ _ _ _ _ _ _ _ _ _ _ _); (repeat (first | exact Les.nil | refine Les.cons le.rfl_ ?_ | refine Les.cons (le.gs rfl) ?_ | refine Les.cons (le.gs List.map_nil.symm) ?_ | refine Les.cons (le.agg ?_) ?_)); (repeat (with_reducible first | exact Pulled.nil | apply Pulled.cons | exact Took.here | apply Took.next)); refine And.intro ?_ ?_; (first | exact sv | (simp [encDot, encRoute, encFence, V.one]; omega) | (simp [encRoute, encDot, encFence, V.one, List.length_take, List.length_drop] <;> omega) | (refine ⟨by omega, by omega, ?_⟩; intro y hy; rcases List.mem_append.1 hy with hy | hy; (obtain ⟨x, _, rfl⟩ := List.mem_map.1 hy; rfl); (simp only [List.mem_singleton] at hy; subst hy; rfl)) | (refine ⟨by omega, by omega, ?_⟩; intro y hy; obtain ⟨x, _, rfl⟩ := List.mem_map.1 hy; first | rfl | exact ⟨rfl, rfl⟩) | (refine ⟨?_, ?_, ?_, ?_⟩ <;> first | omega | (simp only [List.length_append, List.length_singleton]; omega)) | (simp [encCell, u8, V.one]; omega) | (simp [encCell, u8, V.one, List.length_take, List.length_drop] <;> omega))) | (refine DVop.loada_ rfl rfl rfl rfl ?_; (repeat (with_reducible first | refine OnA.here ?_ | refine OnA.next ?_))) | (refine DVop.load_ rfl rfl rfl rfl ?_; (repeat (with_reducible first | refine OnB.here ?_ | refine OnB.mid ?_ | refine OnB.next ?_))) | (refine DVop.f_ rfl ?_))) | (first | (apply DOp.callq_ rfl rfl (h := newer_dc _ _ _ _ _ _ _ _ _ _ _ _ _ _ _ _ _ _ _ _ _); (repeat (first | exact Les.nil | refine Les.cons le.rfl_ ?_ | refine Les.cons (le.gs rfl) ?_ | refine Les.cons (le.gs List.map_nil.symm) ?_ | refine Les.cons (le.agg ?_) ?_)); (repeat (with_reducible first | exact Pulled.nil | apply Pulled.cons | exact Took.here | apply Took.next)); refine And.intro ?_ ?_; (first | exact sv | (simp [encDot, encRoute, encFence, V.one]; omega) | (simp [encRoute, encDot, encFence, V.one, List.length_take, List.length_drop] <;> omega) | (refine ⟨by omega, by omega, ?_⟩; intro y hy; rcases List.mem_append.1 hy with hy | hy; (obtain ⟨x, _, rfl⟩ := List.mem_map.1 hy; rfl); (simp only [List.mem_singleton] at hy; subst hy; rfl)) | (refine ⟨by omega, by omega, ?_⟩; intro y hy; obtain ⟨x, _, rfl⟩ := List.mem_map.1 hy; first | rfl | exact ⟨rfl, rfl⟩) | (refine ⟨?_, ?_, ?_, ?_⟩ <;> first | omega | (simp only [List.length_append, List.length_singleton]; omega)) | (simp [encCell, u8, V.one]; omega) | (simp [encCell, u8, V.one, List.length_take, List.length_drop] <;> omega)); rintro d rfl) | (refine DOp.box_ rfl ?_) | (refine DOp.list_ rfl ?_) | (refine DOp.load_ rfl rfl ?_; (repeat (with_reducible first | refine OnB.here ?_ | refine OnB.mid ?_ | refine OnB.next ?_))) | (refine DOp.loada_ rfl rfl ?_; (repeat (with_reducible first | refine OnA.here ?_ | refine OnA.next ?_))) | (refine DOp.appa_ rfl rfl rfl ?_; (repeat (with_reducible first | refine OnA.here ?_ | refine OnA.next ?_))) | (refine DOp.appz_ rfl rfl rfl ?_; (repeat (with_reducible first | refine OnT.here ?_ | refine OnT.next ?_)); (fail_if_success (with_reducible refine OnT_id ?_))) | (refine DOp.append0_ rfl rfl rfl ?_))) <;> (simp (maxSteps := 1000000) (disch := omega) only [push_cast, ↓reduceIte, reduceCtorEq, Nat.reduceAdd, Nat.reduceMul, Nat.reduceLT, Nat.reduceLeDiff, Nat.reduceEqDiff, Nat.reduceSub, Int.reduceToNat, Int.reduceLT, Int.reduceLE, Int.reduceAdd, Int.reduceSub, Int.reduceMul, Int.reduceNeg, Nat.reduceBEq, Int.reduceBEq, Int.reduceBNe, Nat.reduceBNe, Int.reduceEq, encCell, takeM, dropM, List.length_take, List.length_drop]))
    | (with_reducible first | refine SeqD.opF [] rfl ?_ | refine SeqD.opgF [] rfl rfl ?_)
    | ((with_reducible first | refine DV.mk rfl ?_ | refine DV.mkg rfl rfl ?_); (refine DVop.mv_ rfl ?_))
    | with_reducible intro b)
  all_goals first
  | (refine ⟨k + 1, ⟨by omega, fun i h1 h2 => ?_⟩, by omega, by simp [Sub, get], ?_⟩; (by_cases hik : i = k; (subst hik; rw [‹Op.bytesLess _ _ = true›]; rfl); exact ha i h1 (by omega)); (repeat (with_reducible first | exact SubP.refl | exact SubP.nil | refine SubP.pick ?_ | refine Out.here ?_ | refine Out.next ?_ | refine SubP.drop ?_)); done)
  | (rw [cellIn_old (k := k) (c := ⟨⟨c1, c2, c3⟩, ⟨c4, c5, c6⟩, c7, c8, c9, c10⟩) (placeC_at (by omega) ha (by assumption)) (by omega) (by assumption) (by assumption)]; (refine ⟨_, _, ?_, ⟨rfl, rfl⟩, ?_⟩; (first | exact le.rfl_ | exact le.gs rfl | refine le.of_eq ?_ | refine le.gs ?_); rotate_left; (repeat (with_reducible first | exact SubP.refl | exact SubP.nil | refine SubP.pick ?_ | refine Out.here ?_ | refine Out.next ?_ | refine SubP.drop ?_))); done)
  | (rw [cellIn_set (k := k) (c := ⟨⟨c1, c2, c3⟩, ⟨c4, c5, c6⟩, c7, c8, c9, c10⟩) (placeC_at (by omega) ha (by assumption)) (by omega) (by assumption) (by assumption)]; refine ⟨_, _, le.gs ?_, ⟨rfl, rfl⟩, ?_⟩; (simp [encCell]); (repeat (with_reducible first | exact SubP.refl | exact SubP.nil | refine SubP.pick ?_ | refine Out.here ?_ | refine Out.next ?_ | refine SubP.drop ?_)); done)
  | (rw [cellIn_new (k := k) (c := ⟨⟨c1, c2, c3⟩, ⟨c4, c5, c6⟩, c7, c8, c9, c10⟩) (placeC_at (by omega) ha (by assumption)) (.inr (by assumption))]; refine ⟨_, _, le.gs ?_, ⟨rfl, rfl⟩, ?_⟩; (simp [encCell]); (repeat (with_reducible first | exact SubP.refl | exact SubP.nil | refine SubP.pick ?_ | refine Out.here ?_ | refine Out.next ?_ | refine SubP.drop ?_)); done)
  | (have hkl : k = ce.length := by omega
     subst hkl
     rw [cellIn_new (c := ⟨⟨c1, c2, c3⟩, ⟨c4, c5, c6⟩, c7, c8, c9, c10⟩) (placeC_no (Nat.le_refl _) ha) (.inl (Nat.le_refl _))]; refine ⟨_, _, le.gs ?_, ⟨rfl, rfl⟩, ?_⟩; (simp [encCell]); (repeat (with_reducible first | exact SubP.refl | exact SubP.nil | refine SubP.pick ?_ | refine Out.here ?_ | refine Out.next ?_ | refine SubP.drop ?_)); done)
end Go.Proofs.YtfamfamgopchnaaGreatDoor
