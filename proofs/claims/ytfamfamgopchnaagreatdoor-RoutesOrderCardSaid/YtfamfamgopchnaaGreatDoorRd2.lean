/- A deed is put into what was seen. -/
import Derived.Test.YtfamfamgopchnaaGreatDoorRd1
import Derived.KernelRfl
namespace Go.Proofs.YtfamfamgopchnaaGreatDoor
open Go.RowKit
set_option linter.unusedSimpArgs false
set_option linter.unusedVariables false
set_option linter.unusedSectionVars false
set_option maxHeartbeats 4000000
set_option maxRecDepth 100000
attribute [local irreducible] DW SeqD DV DOp DC DVX


theorem dot_n (l : List TDot) : ∀ y ∈ l.map encDot, y.n = 3 := by intro y hy; obtain ⟨x, _, rfl⟩ := List.mem_map.1 hy; rfl
theorem cells_dots (l : List TDot) : (cells (l.map encDot)).length = l.length * 3 := by rw [cells_len _ (dot_n l), List.length_map]
theorem cells_dot : ∀ (l : List TDot) (k : Nat), k < l.length → List.take 3 (List.drop (k * 3) (cells (l.map encDot))) = [.int .i64 (l.getD k default).node, .int .i64 (l.getD k default).epoch, .int .i64 (l.getD k default).n]
  | [], k, h => absurd h (Nat.not_lt_zero _)
  | d :: l, 0, _ => rfl
  | d :: l, k + 1, h => by
    have := cells_dot l k (by simpa using h)
    rw [List.getD_cons_succ, ← this]
    show List.take 3 (List.drop ((k + 1) * 3) ([V.int .i64 d.node, .int .i64 d.epoch, .int .i64 d.n] ++ cells (l.map encDot))) = _
    rw [show (k + 1) * 3 = ([V.int .i64 d.node, .int .i64 d.epoch, .int .i64 d.n] : List V).length + k * 3 from by simp; omega, List.drop_append, List.drop_of_length_le (by omega), List.nil_append, Nat.add_sub_cancel_left]
theorem lay_app (a b d : List V) (m : Nat) : layV (a ++ b) (a.length + m) d = a ++ layV b m d := by
  unfold layV
  rw [List.take_append, List.take_of_length_le (by omega), List.drop_append, List.drop_of_length_le (by omega), List.nil_append, Nat.add_sub_cancel_left, show a.length + m + d.length - a.length = m + d.length from by omega]
  simp [List.append_assoc]
theorem cells_setn : ∀ (l : List TDot) (k : Nat) (n : Int), k < l.length → layV (cells (l.map encDot)) (k * 3 + 2) [.int .i64 n] = cells ((l.set k { l.getD k default with n := n }).map encDot)
  | [], k, n, h => absurd h (Nat.not_lt_zero _)
  | d :: l, 0, n, _ => rfl
  | d :: l, k + 1, n, h => by
    have := cells_setn l k n (by simpa using h)
    rw [List.getD_cons_succ, List.set_cons_succ, List.map_cons, List.map_cons, cells_cons, cells_cons, ← this]
    have e : (k + 1) * 3 + 2 = (encDot d).cs.length + (k * 3 + 2) := by show _ = 3 + _; omega
    rw [e, lay_app]
theorem takeM {α : Type} (f : α → V) (n : Nat) (l : List α) : List.take n (List.map f l) = List.map f (List.take n l) := List.map_take.symm
theorem dropM {α : Type} (f : α → V) (n : Nat) (l : List α) : List.drop n (List.map f l) = List.map f (List.drop n l) := List.map_drop.symm
theorem placeD_at {l : List TDot} {d : TDot} {k : Nat} (h : k < l.length) (ha : ∀ i, 0 ≤ i → i < k → (!ahead (l.getD i default) d) = false) (hk : ahead (l.getD k default) d = false) : placeD l d = k :=
  firstK_at _ l.length 0 k (Nat.zero_le _) (by omega) ha (by rw [hk]; rfl)
theorem placeD_no {l : List TDot} {d : TDot} {k : Nat} (h : l.length ≤ k) (ha : ∀ i, 0 ≤ i → i < k → (!ahead (l.getD i default) d) = false) : placeD l d = l.length := by
  have := firstK_no (fun i => !ahead (l.getD i default) d) l.length 0 (fun i h1 h2 => ha i h1 (by omega))
  rw [Nat.zero_add] at this
  exact this
theorem addM_put {l : List TDot} {d : TDot} (h1 : rightB l = true) (h2 : oneB d = true) (h3 : hasB l d = false) : addM l d = putD l d := by rw [addM, if_pos h1, if_pos ⟨h2, h3⟩]
theorem addM_old {l : List TDot} {d : TDot} (h1 : rightB l = true) (h : oneB d = false ∨ hasB l d = true) : addM l d = l := by
  rw [addM, if_pos h1, if_neg]
  rintro ⟨a, b⟩
  rcases h with h | h
  · rw [h] at a; cases a
  · rw [h] at b; cases b
theorem addM_no {l : List TDot} {d : TDot} (h1 : rightB l = false) : addM l d = [] := by rw [addM, if_neg (by rw [h1]; simp)]
theorem put_set {l : List TDot} {d : TDot} {k : Nat} (hp : placeD l d = k) (h : k < l.length) (ha : ahead d (l.getD k default) = false) : putD l d = l.set k { l.getD k default with n := d.n } := by rw [putD, hp, if_pos ⟨h, ha⟩]
theorem put_ins {l : List TDot} {d : TDot} {k : Nat} (hp : placeD l d = k) (h : l.length ≤ k ∨ ahead d (l.getD k default) = true) : putD l d = l.take k ++ (d :: l.drop k) := by
  rw [putD, hp, if_neg]
  rintro ⟨a, b⟩
  rcases h with h | h
  · omega
  · rw [h] at b; cases b
theorem rright1_dc (a b c : Int) (F : Own) : True → DC Tryz.prog 59 [.sl [.agg [.int .i64 a, .int .i64 b, .int .i64 c]]] (([] : Own) ++ F) fun d G => d = .bool (oneB ⟨a, b, c⟩) ∧ G = [] ++ F := fun _ => (rright_dc [⟨a, b, c⟩] F (by simp)).mono fun d G h => by
  rw [h.1]
  refine ⟨?_, h.2⟩
  simp [rightB, allK, dotOk, oneB, List.range_succ]
theorem radd_dc (l : List TDot) (x1 x2 x3 : Int) (F : Own) : (l.length ≤ 1000000000) → DC Tryz.prog 86 [.sl (l.map encDot), .agg [.int .i64 x1, .int .i64 x2, .int .i64 x3]] (([] : Own) ++ F) fun d G => d = .sl ((addM l ⟨x1, x2, x3⟩).map encDot) ∧ G = [] ++ F := by
  intro hA
  have hl := hA
  refine DC.bodyS (n_ := 67) (show Tryz.prog.funcs[86]? = some Tryz.f86 by kernel_rfl) rfl rfl (by rfl) ?_
  simp only [env0, List.cons_append, List.nil_append]
  repeat' (first
    | ((with_reducible apply DW.frzR 5); (repeat (with_reducible first | refine OnA.here ?_ | refine OnA.next ?_)); refine ⟨rfl, by decide, (by intro y hy; obtain ⟨x, _, rfl⟩ := List.mem_map.1 hy; rfl), ?_, ?_⟩; (repeat (first | exact CvE.nil | apply CvE.cons (Cv.hit _) | apply CvE.cons (Cv.rfl _))))
    | ((with_reducible apply DW.frzR 11); (repeat (with_reducible first | refine OnA.here ?_ | refine OnA.next ?_)); refine ⟨rfl, by decide, (by intro y hy; obtain ⟨x, _, rfl⟩ := List.mem_map.1 hy; rfl), ?_, ?_⟩; (repeat (first | exact CvE.nil | apply CvE.cons (Cv.hit _) | apply CvE.cons (Cv.rfl _))))
    | ((with_reducible apply DW.frzR 12); (repeat (with_reducible first | refine OnA.here ?_ | refine OnA.next ?_)); refine ⟨rfl, by decide, (by intro y hy; obtain ⟨x, _, rfl⟩ := List.mem_map.1 hy; rfl), ?_, ?_⟩; (repeat (first | exact CvE.nil | apply CvE.cons (Cv.hit _) | apply CvE.cons (Cv.rfl _))))
    | ((with_reducible refine DW.loopB 0 (X := Nat) (fun x => x ≤ l.length ∧ ∀ i, 0 ≤ i → i < x → (!ahead (l.getD i default) ⟨x1, x2, x3⟩) = false) (fun x => [(3, .sp [.int .i64 x1, .int .i64 x2, .int .i64 x3]), (5, .ar b l.length), (6, .int .i64 x)]) (fun x => .arr 3 b (cells (l.map encDot)) :: ([] : Own)) (fun x => l.length - x) (0) ?_ ?_ ?_); exact (⟨Nat.zero_le _, fun i _ h => absurd h (Nat.not_lt_zero _)⟩); (simp [Sub, get, keepL] <;> fail); (try simp only [List.cons_append, List.nil_append]); (repeat (with_reducible first | refine Pull.nil ?_ | refine Pull.cons ?_ | refine Out.here ?_ | refine Out.next ?_)); intro k ⟨hk, ha⟩; (try simp only [List.cons_append, List.nil_append]))
    | with_reducible first | refine DW.sq ?_ | refine DW.block ?_ | refine DW.skip ?_ | refine DW.exit ?_
    | ((with_reducible refine DW.ret ?_))
    | with_reducible first | refine then_n ?_ | refine then_x ?_ | refine then_r ?_ | refine blk_n ?_ | refine blk_r ?_ | refine blk_x ?_
    | with_reducible refine blk_y (by decide) ?_
    | with_reducible first | refine Next.go ?_ | refine SeqD.nil ?_ | refine DV.nil ?_
    | ((with_reducible refine And.intro ?_ ?_); (first | exact sv | (simp [encDot, V.one]; omega) | (simp [encDot, V.one, List.length_take, List.length_drop] <;> omega) | (refine ⟨by omega, by omega, ?_⟩; intro y hy; rcases List.mem_append.1 hy with hy | hy; (obtain ⟨x, _, rfl⟩ := List.mem_map.1 hy; rfl); (simp only [List.mem_singleton] at hy; subst hy; rfl))))
    | with_reducible first | refine DW.ct_ ?_ | refine DW.cf_ ?_
    | (refine DW.cond (by rfl) (fun hb => ?_) (fun hb => ?_) <;> (try simp only [hbs, Int.reduceBEq, Int.reduceBNe, Int.reduceEq] at hb; try (exfalso; omega)))
    | ((first | ((with_reducible refine DW.regK [0, 1, 3, 4, 5, 6, 9, 20, 33, 48] (by kernel_rfl) ?_); refine SeqD.go (own := []) _ _ ?_) | ((with_reducible refine DW.drawK (id := 7) [0, 1, 3, 4, 5, 6, 9, 20, 33, 48] [] [8, 9, 10] (by kernel_rfl) (by kernel_rfl) (by kernel_rfl) ?_); refine DV.go [8, 9, 10] [] _ _ _ ?_) | ((with_reducible refine DW.drawK (id := 9) [0, 1, 3, 4, 5, 6, 9, 20, 33, 48] [] [5, 9, 10] (by kernel_rfl) (by kernel_rfl) (by kernel_rfl) ?_); refine DV.go [5, 9, 10] [] _ _ _ ?_) | ((with_reducible refine DW.drawK (id := 12) [0, 1, 3, 4, 5, 6, 9, 20, 33, 48] [3, 6, 10] [] (by kernel_rfl) (by kernel_rfl) (by kernel_rfl) ?_); refine DV.go [] [3, 6, 10] _ _ _ ?_) | ((first | refine Both.imp (fun hb => ?_) (fun hb => ?_) | (with_reducible first | refine FVg_cases (fun hb => ?_) (fun hb => ?_) | refine FDg_cases (fun hb => ?_) (fun hb => ?_)) <;> rw [hb]) <;> (try simp only [hbs, Int.reduceBEq, Int.reduceBNe, Int.reduceEq] at hb; try (exfalso; omega))) | (with_reducible refine ret_r rfl ?_) | ((refine ret_c [.tmp 4] (by rfl) ?_); (try (refine RetK_cell _ _ _ _ _ _ rfl ?_; (repeat (with_reducible first | refine OnB.here ?_ | refine OnB.mid ?_ | refine OnB.next ?_))))) | ((refine RetK_cell _ _ _ _ _ _ rfl ?_); (repeat (with_reducible first | refine OnB.here ?_ | refine OnB.mid ?_ | refine OnB.next ?_))) | (with_reducible refine ret_n rfl ?_) | ((with_reducible first | refine DV.mk rfl ?_ | refine DV.mkg rfl rfl ?_); (first | (apply DVop.callq_ rfl rfl rfl rfl (h1 := rright_dc _ _); (repeat (first | exact Les.nil | refine Les.cons le.rfl_ ?_ | refine Les.cons (le.gs rfl) ?_ | refine Les.cons (le.gs List.map_nil.symm) ?_ | refine Les.cons (le.agg ?_) ?_)); (repeat (with_reducible first | exact Pulled.nil | apply Pulled.cons | exact Took.here | apply Took.next)); refine And.intro ?_ ?_; (first | exact sv | (simp [encDot, V.one]; omega) | (simp [encDot, V.one, List.length_take, List.length_drop] <;> omega) | (refine ⟨by omega, by omega, ?_⟩; intro y hy; rcases List.mem_append.1 hy with hy | hy; (obtain ⟨x, _, rfl⟩ := List.mem_map.1 hy; rfl); (simp only [List.mem_singleton] at hy; subst hy; rfl)))) | (apply DVop.callq_ rfl rfl rfl rfl (h1 := rright1_dc _ _ _ _); (repeat (first | exact Les.nil | refine Les.cons le.rfl_ ?_ | refine Les.cons (le.gs rfl) ?_ | refine Les.cons (le.gs List.map_nil.symm) ?_ | refine Les.cons (le.agg ?_) ?_)); (repeat (with_reducible first | exact Pulled.nil | apply Pulled.cons | exact Took.here | apply Took.next)); refine And.intro ?_ ?_; (first | exact sv | (simp [encDot, V.one]; omega) | (simp [encDot, V.one, List.length_take, List.length_drop] <;> omega) | (refine ⟨by omega, by omega, ?_⟩; intro y hy; rcases List.mem_append.1 hy with hy | hy; (obtain ⟨x, _, rfl⟩ := List.mem_map.1 hy; rfl); (simp only [List.mem_singleton] at hy; subst hy; rfl)))) | ((first | apply DVop.callq_ rfl rfl rfl rfl (h1 := rhas_dc _ _ _ _ _) | apply DVop.callq_ rfl rfl rfl rfl (h1 := ahead_dc _ _ _ _ _ _ _)); (repeat (first | exact Les.nil | refine Les.cons le.rfl_ ?_ | refine Les.cons (le.gs rfl) ?_ | refine Les.cons (le.gs List.map_nil.symm) ?_ | refine Les.cons (le.agg ?_) ?_)); (repeat (with_reducible first | exact Pulled.nil | apply Pulled.cons | exact Took.here | apply Took.next)); refine And.intro ?_ ?_; (first | exact sv | (simp [encDot, V.one]; omega) | (simp [encDot, V.one, List.length_take, List.length_drop] <;> omega) | (refine ⟨by omega, by omega, ?_⟩; intro y hy; rcases List.mem_append.1 hy with hy | hy; (obtain ⟨x, _, rfl⟩ := List.mem_map.1 hy; rfl); (simp only [List.mem_singleton] at hy; subst hy; rfl)))) | (refine DVop.loada_ rfl rfl rfl rfl ?_; (repeat (with_reducible first | refine OnA.here ?_ | refine OnA.next ?_))) | (refine DVop.load_ rfl rfl rfl rfl ?_; (repeat (with_reducible first | refine OnB.here ?_ | refine OnB.mid ?_ | refine OnB.next ?_))) | (refine DVop.f_ rfl ?_))) | (first | (apply DOp.callq_ rfl rfl (h := rright_dc _ _); (repeat (first | exact Les.nil | refine Les.cons le.rfl_ ?_ | refine Les.cons (le.gs rfl) ?_ | refine Les.cons (le.gs List.map_nil.symm) ?_ | refine Les.cons (le.agg ?_) ?_)); (repeat (with_reducible first | exact Pulled.nil | apply Pulled.cons | exact Took.here | apply Took.next)); refine And.intro ?_ ?_; (first | exact sv | (simp [encDot, V.one]; omega) | (simp [encDot, V.one, List.length_take, List.length_drop] <;> omega) | (refine ⟨by omega, by omega, ?_⟩; intro y hy; rcases List.mem_append.1 hy with hy | hy; (obtain ⟨x, _, rfl⟩ := List.mem_map.1 hy; rfl); (simp only [List.mem_singleton] at hy; subst hy; rfl))); rintro d rfl) | (apply DOp.callq_ rfl rfl (h := rright1_dc _ _ _ _); (repeat (first | exact Les.nil | refine Les.cons le.rfl_ ?_ | refine Les.cons (le.gs rfl) ?_ | refine Les.cons (le.gs List.map_nil.symm) ?_ | refine Les.cons (le.agg ?_) ?_)); (repeat (with_reducible first | exact Pulled.nil | apply Pulled.cons | exact Took.here | apply Took.next)); refine And.intro ?_ ?_; (first | exact sv | (simp [encDot, V.one]; omega) | (simp [encDot, V.one, List.length_take, List.length_drop] <;> omega) | (refine ⟨by omega, by omega, ?_⟩; intro y hy; rcases List.mem_append.1 hy with hy | hy; (obtain ⟨x, _, rfl⟩ := List.mem_map.1 hy; rfl); (simp only [List.mem_singleton] at hy; subst hy; rfl))); rintro d rfl) | ((first | apply DOp.callq_ rfl rfl (h := rhas_dc _ _ _ _ _) | apply DOp.callq_ rfl rfl (h := ahead_dc _ _ _ _ _ _ _)); (repeat (first | exact Les.nil | refine Les.cons le.rfl_ ?_ | refine Les.cons (le.gs rfl) ?_ | refine Les.cons (le.gs List.map_nil.symm) ?_ | refine Les.cons (le.agg ?_) ?_)); (repeat (with_reducible first | exact Pulled.nil | apply Pulled.cons | exact Took.here | apply Took.next)); refine And.intro ?_ ?_; (first | exact sv | (simp [encDot, V.one]; omega) | (simp [encDot, V.one, List.length_take, List.length_drop] <;> omega) | (refine ⟨by omega, by omega, ?_⟩; intro y hy; rcases List.mem_append.1 hy with hy | hy; (obtain ⟨x, _, rfl⟩ := List.mem_map.1 hy; rfl); (simp only [List.mem_singleton] at hy; subst hy; rfl))); rintro d rfl) | (refine DOp.app0a_ [11] rfl rfl rfl rfl (by intro h; cases h) ?_) | (refine DOp.box_ rfl ?_) | (refine DOp.list_ rfl ?_) | (refine DOp.store_ rfl rfl ?_; (repeat (with_reducible first | refine OnB.here ?_ | refine OnB.mid ?_ | refine OnB.next ?_))) | (refine DOp.load_ rfl rfl ?_; (repeat (with_reducible first | refine OnB.here ?_ | refine OnB.mid ?_ | refine OnB.next ?_))) | (refine DOp.loada_ rfl rfl ?_; (repeat (with_reducible first | refine OnA.here ?_ | refine OnA.next ?_))) | (refine DOp.storea_ rfl rfl ?_; (repeat (with_reducible first | refine OnA.here ?_ | refine OnA.next ?_))) | (refine DOp.appa_ rfl rfl rfl ?_; (repeat (with_reducible first | refine OnA.here ?_ | refine OnA.next ?_))) | (refine DOp.appz_ rfl rfl rfl ?_; (repeat (with_reducible first | refine OnT.here ?_ | refine OnT.next ?_)); (fail_if_success (with_reducible refine OnT_id ?_))) | (refine DOp.append0_ rfl rfl rfl ?_))) <;> (simp (maxSteps := 1000000) (disch := omega) only [push_cast, ↓reduceIte, reduceCtorEq, Nat.reduceAdd, Nat.reduceMul, Nat.reduceLT, Nat.reduceLeDiff, Nat.reduceEqDiff, Nat.reduceSub, Int.reduceToNat, Int.reduceLT, Int.reduceLE, Int.reduceAdd, Int.reduceSub, Int.reduceMul, Int.reduceNeg, Nat.reduceBEq, Int.reduceBEq, Int.reduceBNe, Nat.reduceBNe, Int.reduceEq, encDot, dot_eta, cells_dots, cells_dot, cells_setn, takeM, dropM, List.length_take, List.length_drop]))
    | (with_reducible first | refine SeqD.opF [] rfl ?_ | refine SeqD.opgF [] rfl rfl ?_)
    | ((with_reducible first | refine DV.mk rfl ?_ | refine DV.mkg rfl rfl ?_); (refine DVop.mv_ rfl ?_))
    | with_reducible intro b)
  all_goals first
  | (rw [addM_no (by assumption)]; (refine ⟨_, _, ?_, ⟨rfl, rfl⟩, ?_⟩; (first | exact le.rfl_ | exact le.gs rfl | refine le.of_eq ?_ | refine le.gs ?_); rotate_left; (repeat (with_reducible first | exact SubP.refl | exact SubP.nil | refine SubP.pick ?_ | refine Out.here ?_ | refine Out.next ?_ | refine SubP.drop ?_))); done)
  | (rw [addM_old (by assumption) (by first | (left; assumption) | (right; assumption))]; (refine ⟨_, _, ?_, ⟨rfl, rfl⟩, ?_⟩; (first | exact le.rfl_ | exact le.gs rfl | refine le.of_eq ?_ | refine le.gs ?_); rotate_left; (repeat (with_reducible first | exact SubP.refl | exact SubP.nil | refine SubP.pick ?_ | refine Out.here ?_ | refine Out.next ?_ | refine SubP.drop ?_))); done)
  | (refine ⟨k + 1, ⟨by omega, fun i h1 h2 => ?_⟩, by omega, by simp [Sub, get], ?_⟩; (by_cases hik : i = k; (subst hik; rw [‹ahead _ _ = true›]; rfl); exact ha i h1 (by omega)); (repeat (with_reducible first | exact SubP.refl | exact SubP.nil | refine SubP.pick ?_ | refine Out.here ?_ | refine Out.next ?_ | refine SubP.drop ?_)); done)
  | (rw [addM_put (by assumption) (by assumption) (by assumption), put_set (placeD_at (by omega) ha (by assumption)) (by omega) (by assumption)]; (refine ⟨_, _, ?_, ⟨rfl, rfl⟩, ?_⟩; (first | exact le.rfl_ | exact le.gs rfl | refine le.of_eq ?_ | refine le.gs ?_); rotate_left; (repeat (with_reducible first | exact SubP.refl | exact SubP.nil | refine SubP.pick ?_ | refine Out.here ?_ | refine Out.next ?_ | refine SubP.drop ?_))); done)
  | (rw [addM_put (by assumption) (by assumption) (by assumption), put_ins (placeD_at (by omega) ha (by assumption)) (.inr (by assumption))]; refine ⟨_, _, le.gs ?_, ⟨rfl, rfl⟩, ?_⟩; (simp [encDot]); (repeat (with_reducible first | exact SubP.refl | exact SubP.nil | refine SubP.pick ?_ | refine Out.here ?_ | refine Out.next ?_ | refine SubP.drop ?_)); done)
  | (have hkl : k = l.length := by omega
     subst hkl
     rw [addM_put (by assumption) (by assumption) (by assumption), put_ins (placeD_no (Nat.le_refl _) ha) (.inl (Nat.le_refl _))]; refine ⟨_, _, le.gs ?_, ⟨rfl, rfl⟩, ?_⟩; (simp [encDot]); (repeat (with_reducible first | exact SubP.refl | exact SubP.nil | refine SubP.pick ?_ | refine Out.here ?_ | refine Out.next ?_ | refine SubP.drop ?_)); done)
end Go.Proofs.YtfamfamgopchnaaGreatDoor
