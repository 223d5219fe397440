/- A deed is put among those that were seen. -/
import Derived.Test.YtfamfamgopchnaaGreatDoorPt6
import Derived.KernelRfl
namespace Go.Proofs.YtfamfamgopchnaaGreatDoor
open Go.RowKit
set_option linter.unusedSimpArgs false
set_option linter.unusedVariables false
set_option linter.unusedSectionVars false
set_option maxHeartbeats 4000000
set_option maxRecDepth 100000


def putP (l : List TDot) (x : TDot) : List TDot := if foundB l x = true then (if (l.getD (placeD l x) default).n < x.n then l.set (placeD l x) { l.getD (placeD l x) default with n := x.n } else l) else l.take (placeD l x) ++ x :: l.drop (placeD l x)
theorem put_add {l : List TDot} {x : TDot} (hr : rightB l = true) (h1 : oneB x = true) : putP l x = addM l x := by
  have ht := top_bs hr x.node x.epoch x.n
  obtain ⟨_, f2, f3, f4⟩ := firstK_le (fun i => !ahead (l.getD i default) x) l.length 0
  obtain ⟨p, hp⟩ : ∃ p, p = placeD l x := ⟨_, rfl⟩
  have hp' : firstK (fun i => !ahead (l.getD i default) x) l.length 0 = p := hp.symm
  rw [hp'] at f2 f3 f4
  have hone := one_iff.1 h1
  cases hf : foundB l x with
  | true =>
    have hlt := found_lt hf
    have hz : livesI (l.getD p default) x = 0 := by
      have := hf; unfold foundB at this; rw [← hp] at this; simp only [Bool.and_eq_true, beq_iff_eq] at this; exact this.2
    have hkey := (lives_z _ _).1 hz
    rw [hf, if_pos rfl, ← hp] at ht
    rw [← hp] at hlt
    rw [putP, if_pos hf, ← hp]
    split
    · rename_i hn
      have hh : hasB l x = false := by
        cases hb : hasB l x with
        | false => rfl
        | true => rw [has_iff] at hb; omega
      rw [addM_put hr h1 hh, put_set hp.symm hlt (by rw [ahead_not]; omega)]
    · rename_i hn
      rw [addM_old hr (.inr (by rw [has_iff]; omega))]
  | false =>
    rw [hf, if_neg (by simp)] at ht
    have hh : hasB l x = false := by
      cases hb : hasB l x with
      | false => rfl
      | true => rw [has_iff] at hb; omega
    rw [putP, if_neg (by rw [hf]; simp), addM_put hr h1 hh, put_ins rfl]
    rw [← hp]
    rcases Nat.lt_or_ge p l.length with hlt | hge
    · right
      have ha : ahead (l.getD p default) x = false := by simpa using f4 (by omega)
      have hnz : ¬ livesI (l.getD p default) x = 0 := fun hz => by
        have : foundB l x = true := by unfold foundB; rw [← hp, hz]; simp [hlt]
        rw [hf] at this; cases this
      rw [lives_z] at hnz
      rw [ahead_not] at ha
      rw [ahead_iff]; omega
    · exact .inl hge
theorem putP_1 {l : List TDot} {x : TDot} (hf : foundB l x = true) (hn : (l.getD (placeD l x) default).n < x.n) : putP l x = l.set (placeD l x) { l.getD (placeD l x) default with n := x.n } := by rw [putP, if_pos hf, if_pos hn]
theorem putP_2 {l : List TDot} {x : TDot} (hf : foundB l x = true) (hn : x.n ≤ (l.getD (placeD l x) default).n) : putP l x = l := by rw [putP, if_pos hf, if_neg (by omega)]
theorem putP_3 {l : List TDot} {x : TDot} (hf : foundB l x = false) : putP l x = l.take (placeD l x) ++ x :: l.drop (placeD l x) := by rw [putP, if_neg (by rw [hf]; simp)]
theorem placeD_le (l : List TDot) (x : TDot) : placeD l x ≤ l.length := by
  obtain ⟨h1, h2, h3, h4⟩ := firstK_le (fun i => !ahead (l.getD i default) x) l.length 0
  show firstK (fun i => !ahead (l.getD i default) x) l.length 0 ≤ l.length
  omega
theorem cells_n {l : List TDot} {k : Nat} (h : k < l.length) : (cells (l.map encDot)).getD (k * 3 + 2) V.any = .int .i64 (l.getD k default).n := by
  rw [cells_at (sz := 3) _ k 2 (dot_n l) (by simpa using h) (by decide)]
  simp [List.getD_eq_getElem?_getD, h, encDot, V.cell]
theorem putP_len (l : List TDot) (x : TDot) : (putP l x).length ≤ l.length + 1 := by
  unfold putP
  split
  · split <;> simp
  · simp; omega
theorem DW.frzRt {P : Program} {n : Nat} {Q : Exit → Env → Own → Prop} {e e' : Env} {H : Own} {v : Value} {l : List V} (h : OnA H v fun sz cs C => cs = cells l ∧ 0 < sz ∧ (∀ y ∈ l, y.n = sz) ∧ CvE v l e e' ∧ DW P n .ret Q e' (C (.tail sz v))) : DW P n .ret Q e H := DW.frzA v h
attribute [local irreducible] DW SeqD DV DOp DC DVX DVJ
theorem bsda0_dc (l : List TDot) (v : Value) (n : Nat) (x1 x2 x3 : Int) (F : Own) : (n = l.length ∧ rightB l = true ∧ l.length ≤ 1000000000) → DC Tryz.prog 204 [.ar v n, .agg [.int .i64 x1, .int .i64 x2, .int .i64 x3], .fn (.func 155) [] []] ([.arr 3 v (cells (l.map encDot))] ++ F) fun d G => d = .tup [.int .i64 (placeD l ⟨x1, x2, x3⟩), .bool (foundB l ⟨x1, x2, x3⟩)] ∧ G = [.arr 3 v (cells (l.map encDot))] ++ F := by
  intro hA
  obtain ⟨hn, hr, hl⟩ := hA
  refine DC.bodyS (n_ := 49) (show Tryz.prog.funcs[204]? = some Tryz.f204 by kernel_rfl) rfl rfl (by rfl) ?_
  simp only [env0, List.cons_append, List.nil_append]
  subst hn
  repeat' (first
    | ((with_reducible refine DW.loopB 0 (X := Nat × Nat) (fun x => x.1 ≤ x.2 ∧ x.2 ≤ l.length ∧ (x.1 = 0 ∨ ahead (l.getD (x.1 - 1) default) ⟨x1, x2, x3⟩ = true) ∧ (x.2 = l.length ∨ ahead (l.getD x.2 default) ⟨x1, x2, x3⟩ = false)) (fun x => [(0, .ar v l.length), (2, .fn (.func 155) [] []), (4, .sp [.int .i64 x1, .int .i64 x2, .int .i64 x3]), (8, .int .i64 l.length), (9, .int .i64 x.1), (10, .int .i64 x.2)]) (fun x => .arr 3 v (cells (l.map encDot)) :: ([] : Own)) (fun x => x.2 - x.1) ((0, l.length)) ?_ ?_ ?_); exact (⟨Nat.zero_le _, Nat.le_refl _, .inl rfl, .inl rfl⟩); (simp [Sub, get, keepL] <;> fail); (try simp only [List.cons_append, List.nil_append]); (repeat (with_reducible first | refine Pull.nil ?_ | refine Pull.cons ?_ | refine Out.here ?_ | refine Out.next ?_)); intro ⟨i, j⟩ ⟨hij, hj, h1, h2⟩; (try simp only [List.cons_append, List.nil_append]); simp only at hij hj h1 h2)
    | with_reducible first | refine DW.sq ?_ | refine DW.block ?_ | refine DW.skip ?_ | refine DW.exit ?_
    | ((with_reducible refine DW.ret ?_))
    | with_reducible first | refine then_n ?_ | refine then_x ?_ | refine then_r ?_ | refine blk_n ?_ | refine blk_r ?_ | refine blk_x ?_
    | with_reducible refine blk_y (by decide) ?_
    | with_reducible first | refine Next.go ?_ | refine SeqD.nil ?_ | refine DV.nil ?_
    | ((with_reducible refine And.intro ?_ ?_); (exact sv))
    | with_reducible first | refine DW.ct_ ?_ | refine DW.cf_ ?_
    | (refine DW.cond (by rfl) (fun hb => ?_) (fun hb => ?_) <;> (try simp only [hbs, Int.reduceBEq, Int.reduceBNe, Int.reduceEq] at hb; try (exfalso; omega)))
    | ((first | ((with_reducible refine DW.regK [0, 1, 2, 4, 6, 7, 8, 9, 10, 11, 17, 31] (by kernel_rfl) ?_); refine SeqD.go (own := []) _ _ ?_) | ((with_reducible refine DW.drawK (id := 5) [0, 1, 2, 4, 6, 7, 8, 9, 10, 11, 17, 31] [] [4, 5, 6] (by kernel_rfl) (by kernel_rfl) (by kernel_rfl) ?_); refine DV.go [4, 5, 6] [] _ _ _ ?_) | ((with_reducible refine DW.drawK (id := 8) [0, 1, 2, 4, 6, 7, 8, 9, 10, 11, 17, 31] [] [9, 10, 11] (by kernel_rfl) (by kernel_rfl) (by kernel_rfl) ?_); refine DV.go [9, 10, 11] [] _ _ _ ?_) | ((first | refine Both.imp (fun hb => ?_) (fun hb => ?_) | (with_reducible first | refine FVg_cases (fun hb => ?_) (fun hb => ?_) | refine FDg_cases (fun hb => ?_) (fun hb => ?_)) <;> rw [hb]) <;> (try simp only [hbs, Int.reduceBEq, Int.reduceBNe, Int.reduceEq] at hb; try (exfalso; omega))) | (with_reducible refine ret_r rfl ?_) | ((refine ret_c [.tmp 6, .tmp 7] (by rfl) ?_); (try (refine RetK_cell _ _ _ _ _ _ rfl ?_; (repeat (with_reducible first | refine OnB.here ?_ | refine OnB.mid ?_ | refine OnB.next ?_))))) | ((refine RetK_cell _ _ _ _ _ _ rfl ?_); (repeat (with_reducible first | refine OnB.here ?_ | refine OnB.mid ?_ | refine OnB.next ?_))) | (with_reducible refine ret_n rfl ?_) | ((with_reducible first | refine DV.mk rfl ?_ | refine DV.mkg rfl rfl ?_); (first | (apply DVop.callq_ rfl rfl rfl rfl (h1 := lives_dc _ _ _ _ _ _ _); (repeat (first | exact Les.nil | refine Les.cons le.rfl_ ?_ | refine Les.cons (le.gs rfl) ?_ | refine Les.cons (le.gs List.map_nil.symm) ?_ | refine Les.cons (le.agg ?_) ?_)); (repeat (with_reducible first | exact Pulled.nil | apply Pulled.cons | exact Took.here | apply Took.next)); refine And.intro ?_ ?_; (exact sv)) | (refine DVop.loada_ rfl rfl rfl rfl ?_; (repeat (with_reducible first | refine OnA.here ?_ | refine OnA.next ?_))) | (refine DVop.load_ rfl rfl rfl rfl ?_; (repeat (with_reducible first | refine OnB.here ?_ | refine OnB.mid ?_ | refine OnB.next ?_))) | (refine DVop.f_ rfl ?_))) | (first | (apply DOp.callq_ rfl rfl (h := lives_dc _ _ _ _ _ _ _); (repeat (first | exact Les.nil | refine Les.cons le.rfl_ ?_ | refine Les.cons (le.gs rfl) ?_ | refine Les.cons (le.gs List.map_nil.symm) ?_ | refine Les.cons (le.agg ?_) ?_)); (repeat (with_reducible first | exact Pulled.nil | apply Pulled.cons | exact Took.here | apply Took.next)); refine And.intro ?_ ?_; (exact sv); rintro d rfl) | (refine DOp.box_ rfl ?_) | (refine DOp.load_ rfl rfl ?_; (repeat (with_reducible first | refine OnB.here ?_ | refine OnB.mid ?_ | refine OnB.next ?_))) | (refine DOp.loada_ rfl rfl ?_; (repeat (with_reducible first | refine OnA.here ?_ | refine OnA.next ?_))))) <;> (simp (maxSteps := 1000000) (disch := omega) only [push_cast, ↓reduceIte, reduceCtorEq, Nat.reduceAdd, Nat.reduceMul, Nat.reduceLT, Nat.reduceLeDiff, Nat.reduceEqDiff, Nat.reduceSub, Int.reduceToNat, Int.reduceLT, Int.reduceLE, Int.reduceAdd, Int.reduceSub, Int.reduceMul, Int.reduceNeg, Nat.reduceBEq, Int.reduceBEq, Int.reduceBNe, Nat.reduceBNe, Int.reduceEq, encDot, dot_eta, half_eq, cells_dots, cells_dot]))
    | (with_reducible first | refine SeqD.opF [] rfl ?_ | refine SeqD.opgF [] rfl rfl ?_)
    | ((with_reducible first | refine DV.mk rfl ?_ | refine DV.mkg rfl rfl ?_); (refine DVop.mv_ rfl ?_))
    | with_reducible intro b)
  all_goals first
  | (refine ⟨((i + j) / 2 + 1, j), ⟨by simp only; omega, by simp only; omega, .inr (by simpa using (lives_lt _ _).1 (by assumption)), h2⟩, by simp only; omega, by simp [Sub, get], ?_⟩; (repeat (with_reducible first | exact SubP.refl | exact SubP.nil | refine SubP.pick ?_ | refine Out.here ?_ | refine Out.next ?_ | refine SubP.drop ?_)); done)
  | (refine ⟨(i, (i + j) / 2), ⟨by simp only; omega, by simp only; omega, h1, .inr ((lives_nlt _ _).1 (by assumption))⟩, by simp only; omega, by simp [Sub, get], ?_⟩; (repeat (with_reducible first | exact SubP.refl | exact SubP.nil | refine SubP.pick ?_ | refine Out.here ?_ | refine Out.next ?_ | refine SubP.drop ?_)); done)
  | (obtain rfl : j = i := by omega
     have hp := bsD (x := ⟨x1, x2, x3⟩) hr hj h1 h2
     have hf : foundB l ⟨x1, x2, x3⟩ = (livesI (l.getD j default) ⟨x1, x2, x3⟩ == 0) := by rw [foundB, hp, decide_eq_true (by omega), Bool.true_and]
     rw [hp, hf]; (refine ⟨_, _, ?_, ⟨rfl, rfl⟩, ?_⟩; (first | exact le.rfl_ | exact le.gs rfl | refine le.of_eq ?_ | refine le.gs ?_); rotate_left; (repeat (with_reducible first | exact SubP.refl | exact SubP.nil | refine SubP.pick ?_ | refine Out.here ?_ | refine Out.next ?_ | refine SubP.drop ?_))); done)
  | (obtain rfl : j = i := by omega
     have hp := bsD (x := ⟨x1, x2, x3⟩) hr hj h1 h2
     have hf : foundB l ⟨x1, x2, x3⟩ = false := by rw [foundB, hp, decide_eq_false (by omega), Bool.false_and]
     rw [hp, hf]; (refine ⟨_, _, ?_, ⟨rfl, rfl⟩, ?_⟩; (first | exact le.rfl_ | exact le.gs rfl | refine le.of_eq ?_ | refine le.gs ?_); rotate_left; (repeat (with_reducible first | exact SubP.refl | exact SubP.nil | refine SubP.pick ?_ | refine Out.here ?_ | refine Out.next ?_ | refine SubP.drop ?_))); done)
theorem bsda_dc (l : List TDot) (v : Value) (n : Nat) (x1 x2 x3 : Int) (F : Own) : (n = l.length ∧ rightB l = true ∧ l.length ≤ 1000000000) → DC Tryz.prog 204 [.ar v n, .agg [.int .i64 x1, .int .i64 x2, .int .i64 x3], .fn (.func 155) [] []] ([.arr 3 v (cells (l.map encDot))] ++ F) fun d G => (foundB l ⟨x1, x2, x3⟩ = true ∧ placeD l ⟨x1, x2, x3⟩ < l.length ∧ d = .tup [.int .i64 (placeD l ⟨x1, x2, x3⟩), .bool true] ∨ foundB l ⟨x1, x2, x3⟩ = false ∧ d = .tup [.int .i64 (placeD l ⟨x1, x2, x3⟩), .bool false]) ∧ G = [.arr 3 v (cells (l.map encDot))] ++ F := fun h =>
  (bsda0_dc l v n x1 x2 x3 F h).mono fun d G ⟨h1, h2⟩ => ⟨by
    cases hf : foundB l ⟨x1, x2, x3⟩ with
    | true => rw [hf] at h1; exact .inl ⟨rfl, found_lt hf, h1⟩
    | false => rw [hf] at h1; exact .inr ⟨rfl, h1⟩, h2⟩
theorem put_dc (l : List TDot) (v : Value) (n : Nat) (x1 x2 x3 : Int) (F : Own) : (n = l.length ∧ rightB l = true ∧ l.length ≤ 1000000000) → DC Tryz.prog 176 [.ar v n, .agg [.int .i64 x1, .int .i64 x2, .int .i64 x3]] ([.arr 3 v (cells (l.map encDot))] ++ F) fun d G => ∃ v2, d = .ar v2 (putP l ⟨x1, x2, x3⟩).length ∧ G = .arr 3 v2 (cells ((putP l ⟨x1, x2, x3⟩).map encDot)) :: F := by
  intro hA
  obtain ⟨hn, hr, hl⟩ := hA
  refine DC.bodyS (n_ := 37) (show Tryz.prog.funcs[176]? = some Tryz.f176 by kernel_rfl) rfl rfl (by rfl) ?_
  simp only [env0, List.cons_append, List.nil_append]
  subst hn
  repeat' (first
    | with_reducible first | refine DW.sq ?_ | refine DW.block ?_ | refine DW.skip ?_ | refine DW.exit ?_
    | ((with_reducible refine DW.ret ?_))
    | with_reducible first | refine then_n ?_ | refine then_x ?_ | refine then_r ?_ | refine blk_n ?_ | refine blk_r ?_ | refine blk_x ?_
    | with_reducible refine blk_y (by decide) ?_
    | with_reducible first | refine Next.go ?_ | refine SeqD.nil ?_ | refine DV.nil ?_
    | ((with_reducible refine And.intro ?_ ?_); (first | exact sv | exact ⟨rfl, placeD_le _ _, hl⟩))
    | with_reducible first | refine DW.ct_ ?_ | refine DW.cf_ ?_
    | (refine DW.cond (by rfl) (fun hb => ?_) (fun hb => ?_) <;> (try simp only [hbs, Int.reduceBEq, Int.reduceBNe, Int.reduceEq] at hb; try (exfalso; omega)))
    | ((first | ((with_reducible refine DW.regK [0, 1, 3, 4, 5, 6, 13, 21] (by kernel_rfl) ?_); refine SeqD.go (own := [19]) _ _ ?_) | ((with_reducible refine DW.drawK (id := 4) [0, 1, 3, 4, 5, 6, 13, 21] [] [4, 6] (by kernel_rfl) (by kernel_rfl) (by kernel_rfl) ?_); refine DV.go [4, 6] [] _ _ _ ?_) | ((first | refine Both.imp (fun hb => ?_) (fun hb => ?_) | (with_reducible first | refine FVg_cases (fun hb => ?_) (fun hb => ?_) | refine FDg_cases (fun hb => ?_) (fun hb => ?_)) <;> rw [hb]) <;> (try simp only [hbs, Int.reduceBEq, Int.reduceBNe, Int.reduceEq] at hb; try (exfalso; omega))) | (with_reducible refine ret_r rfl ?_) | ((refine ret_c [.tmp 4] (by rfl) ?_); (try (refine RetK_cell _ _ _ _ _ _ rfl ?_; (repeat (with_reducible first | refine OnB.here ?_ | refine OnB.mid ?_ | refine OnB.next ?_))))) | ((refine RetK_cell _ _ _ _ _ _ rfl ?_); (repeat (with_reducible first | refine OnB.here ?_ | refine OnB.mid ?_ | refine OnB.next ?_))) | (with_reducible refine ret_n rfl ?_) | ((with_reducible first | refine DV.mk rfl ?_ | refine DV.mkg rfl rfl ?_); (first | (refine DVop.loada_ rfl rfl rfl rfl ?_; (repeat (with_reducible first | refine OnA.here ?_ | refine OnA.next ?_))) | (refine DVop.load_ rfl rfl rfl rfl ?_; (repeat (with_reducible first | refine OnB.here ?_ | refine OnB.mid ?_ | refine OnB.next ?_))) | (refine DVop.f_ rfl ?_))) | (first | (apply DOp.callp_ rfl rfl (h := bsda_dc _ _ _ _ _ _ _); (repeat (first | exact Les.nil | refine Les.cons le.rfl_ ?_ | refine Les.cons (le.gs rfl) ?_ | refine Les.cons (le.gs List.map_nil.symm) ?_ | refine Les.cons (le.agg ?_) ?_)); (repeat (with_reducible first | exact Pulled.nil | apply Pulled.cons | exact Took.here | apply Took.next)); refine And.intro ?_ ?_; (first | exact sv | exact ⟨rfl, placeD_le _ _, hl⟩); rintro d H1 ⟨⟨hf, hpl, rfl⟩ | ⟨hf, rfl⟩, rfl⟩) | (apply DOp.callp_ rfl rfl (h := insd_dc _ _ _ _ _ _ _ _ _); (repeat (first | exact Les.nil | refine Les.cons le.rfl_ ?_ | refine Les.cons (le.gs rfl) ?_ | refine Les.cons (le.gs List.map_nil.symm) ?_ | refine Les.cons (le.agg ?_) ?_)); (repeat (with_reducible first | exact Pulled.nil | apply Pulled.cons | exact Took.here | apply Took.next)); refine And.intro ?_ ?_; (first | exact sv | exact ⟨rfl, placeD_le _ _, hl⟩); rintro d H1 ⟨v2, rfl, rfl⟩) | (refine DOp.lista_ [19] rfl rfl ?_) | (refine DOp.box_ rfl ?_) | (refine DOp.list_ rfl ?_) | (refine DOp.store_ rfl rfl ?_; (repeat (with_reducible first | refine OnB.here ?_ | refine OnB.mid ?_ | refine OnB.next ?_))) | (refine DOp.load_ rfl rfl ?_; (repeat (with_reducible first | refine OnB.here ?_ | refine OnB.mid ?_ | refine OnB.next ?_))) | (refine DOp.loada_ rfl rfl ?_; (repeat (with_reducible first | refine OnA.here ?_ | refine OnA.next ?_))) | (refine DOp.storea_ rfl rfl ?_; (repeat (with_reducible first | refine OnA.here ?_ | refine OnA.next ?_))))) <;> (simp (maxSteps := 1000000) (disch := omega) only [push_cast, ↓reduceIte, reduceCtorEq, Nat.reduceAdd, Nat.reduceMul, Nat.reduceLT, Nat.reduceLeDiff, Nat.reduceEqDiff, Nat.reduceSub, Int.reduceToNat, Int.reduceLT, Int.reduceLE, Int.reduceAdd, Int.reduceSub, Int.reduceMul, Int.reduceNeg, Nat.reduceBEq, Int.reduceBEq, Int.reduceBNe, Nat.reduceBNe, Int.reduceEq, encDot, dot_eta, cells_dots, cells_dot, cells_setn, cells_n]))
    | (with_reducible first | refine SeqD.opF [19] rfl ?_ | refine SeqD.opgF [19] rfl rfl ?_)
    | ((with_reducible first | refine DV.mk rfl ?_ | refine DV.mkg rfl rfl ?_); (refine DVop.mv_ rfl ?_))
    | with_reducible intro b)
  all_goals first
  | (have e : putP l ⟨x1, x2, x3⟩ = _ := putP_1 hf hb
     refine ⟨_, _, ?_, ⟨?_, rfl, rfl⟩, ?_⟩; rotate_left 2; (rw [e]); (repeat (with_reducible first | exact SubP.refl | exact SubP.nil | refine SubP.pick ?_ | refine Out.here ?_ | refine Out.next ?_ | refine SubP.drop ?_)); (rw [e]); (first | exact le.rfl_ | exact le.of_eq (congrArg (V.ar _) (by simp; try omega))); done)
  | (have e : putP l ⟨x1, x2, x3⟩ = _ := putP_2 hf hb
     refine ⟨_, _, ?_, ⟨?_, rfl, rfl⟩, ?_⟩; rotate_left 2; (rw [e]); (repeat (with_reducible first | exact SubP.refl | exact SubP.nil | refine SubP.pick ?_ | refine Out.here ?_ | refine Out.next ?_ | refine SubP.drop ?_)); (rw [e]); (first | exact le.rfl_ | exact le.of_eq (congrArg (V.ar _) (by simp; try omega))); done)
  | (have e : putP l ⟨x1, x2, x3⟩ = _ := putP_3 hf
     refine ⟨_, _, ?_, ⟨?_, rfl, rfl⟩, ?_⟩; rotate_left 2; (rw [e]); (repeat (with_reducible first | exact SubP.refl | exact SubP.nil | refine SubP.pick ?_ | refine Out.here ?_ | refine Out.next ?_ | refine SubP.drop ?_)); (rw [e]); (first | exact le.rfl_ | exact le.of_eq (congrArg (V.ar _) (by simp; try omega))); done)
theorem padd_dc (l : List TDot) (x1 x2 x3 : Int) (F : Own) : (l.length ≤ 1000000000) → DC Tryz.prog 138 [.sl (l.map encDot), .agg [.int .i64 x1, .int .i64 x2, .int .i64 x3]] (([] : Own) ++ F) fun d G => d = .sl ((addM l ⟨x1, x2, x3⟩).map encDot) ∧ G = [] ++ F := by
  intro hA
  have hl := hA
  refine DC.bodyS (n_ := 17) (show Tryz.prog.funcs[138]? = some Tryz.f138 by kernel_rfl) rfl rfl (by rfl) ?_
  simp only [env0, List.cons_append, List.nil_append]
  repeat' (first
    | ((with_reducible apply DW.frzRt); (repeat (with_reducible first | refine OnA.here ?_ | refine OnA.next ?_)); refine ⟨rfl, by decide, (by intro y hy; obtain ⟨x, _, rfl⟩ := List.mem_map.1 hy; rfl), ?_, ?_⟩; (repeat (first | exact CvE.nil | apply CvE.cons (Cv.hit _) | apply CvE.cons (Cv.rfl _))))
    | with_reducible first | refine DW.sq ?_ | refine DW.block ?_ | refine DW.skip ?_ | refine DW.exit ?_
    | ((with_reducible refine DW.ret ?_))
    | with_reducible first | refine then_n ?_ | refine then_x ?_ | refine then_r ?_ | refine blk_n ?_ | refine blk_r ?_ | refine blk_x ?_
    | with_reducible refine blk_y (by decide) ?_
    | with_reducible first | refine Next.go ?_ | refine SeqD.nil ?_ | refine DV.nil ?_
    | ((with_reducible refine And.intro ?_ ?_); (exact sv))
    | with_reducible first | refine DW.ct_ ?_ | refine DW.cf_ ?_
    | (refine DW.cond (by rfl) (fun hb => ?_) (fun hb => ?_) <;> (try simp only [hbs, Int.reduceBEq, Int.reduceBNe, Int.reduceEq] at hb; try (exfalso; omega)))
    | ((first | ((with_reducible refine DW.regK [0, 1, 3, 4, 7, 12] (by kernel_rfl) ?_); refine SeqD.go (own := []) _ _ ?_) | ((first | refine Both.imp (fun hb => ?_) (fun hb => ?_) | (with_reducible first | refine FVg_cases (fun hb => ?_) (fun hb => ?_) | refine FDg_cases (fun hb => ?_) (fun hb => ?_)) <;> rw [hb]) <;> (try simp only [hbs, Int.reduceBEq, Int.reduceBNe, Int.reduceEq] at hb; try (exfalso; omega))) | (with_reducible refine ret_r rfl ?_) | ((refine ret_c [.tmp 4] (by rfl) ?_); (try (refine RetK_cell _ _ _ _ _ _ rfl ?_; (repeat (with_reducible first | refine OnB.here ?_ | refine OnB.mid ?_ | refine OnB.next ?_))))) | ((refine RetK_cell _ _ _ _ _ _ rfl ?_); (repeat (with_reducible first | refine OnB.here ?_ | refine OnB.mid ?_ | refine OnB.next ?_))) | (with_reducible refine ret_n rfl ?_) | (first | ((first | apply DOp.callq_ rfl rfl (h := pright_dc _ _) | apply DOp.callq_ rfl rfl (h := may_dc _ _ _ _)); (repeat (first | exact Les.nil | refine Les.cons le.rfl_ ?_ | refine Les.cons (le.gs rfl) ?_ | refine Les.cons (le.gs List.map_nil.symm) ?_ | refine Les.cons (le.agg ?_) ?_)); (repeat (with_reducible first | exact Pulled.nil | apply Pulled.cons | exact Took.here | apply Took.next)); refine And.intro ?_ ?_; (exact sv); rintro d rfl) | (apply DOp.callp_ rfl rfl (h := clod_dc _ _); (repeat (first | exact Les.nil | refine Les.cons le.rfl_ ?_ | refine Les.cons (le.gs rfl) ?_ | refine Les.cons (le.gs List.map_nil.symm) ?_ | refine Les.cons (le.agg ?_) ?_)); (repeat (with_reducible first | exact Pulled.nil | apply Pulled.cons | exact Took.here | apply Took.next)); refine And.intro ?_ ?_; (exact sv); rintro d H1 ⟨v1, rfl, rfl⟩) | (apply DOp.callp_ rfl rfl (h := put_dc _ _ _ _ _ _ _); (repeat (first | exact Les.nil | refine Les.cons le.rfl_ ?_ | refine Les.cons (le.gs rfl) ?_ | refine Les.cons (le.gs List.map_nil.symm) ?_ | refine Les.cons (le.agg ?_) ?_)); (repeat (with_reducible first | exact Pulled.nil | apply Pulled.cons | exact Took.here | apply Took.next)); refine And.intro ?_ ?_; (exact sv); rintro d H1 ⟨v2, rfl, rfl⟩) | (refine DOp.box_ rfl ?_) | (refine DOp.load_ rfl rfl ?_; (repeat (with_reducible first | refine OnB.here ?_ | refine OnB.mid ?_ | refine OnB.next ?_))) | (refine DOp.loada_ rfl rfl ?_; (repeat (with_reducible first | refine OnA.here ?_ | refine OnA.next ?_))))) <;> (simp (maxSteps := 1000000) (disch := omega) only [push_cast, ↓reduceIte, reduceCtorEq, Nat.reduceAdd, Nat.reduceMul, Nat.reduceLT, Nat.reduceLeDiff, Nat.reduceEqDiff, Nat.reduceSub, Int.reduceToNat, Int.reduceLT, Int.reduceLE, Int.reduceAdd, Int.reduceSub, Int.reduceMul, Int.reduceNeg, Nat.reduceBEq, Int.reduceBEq, Int.reduceBNe, Nat.reduceBNe, Int.reduceEq, encDot, dot_eta]))
    | (with_reducible first | refine SeqD.opF [] rfl ?_ | refine SeqD.opgF [] rfl rfl ?_)
    | with_reducible intro b)
  all_goals first
  | (have e : addM l ⟨x1, x2, x3⟩ = _ := addM_no hb
     rw [e]; (refine ⟨_, _, ?_, ⟨rfl, rfl⟩, ?_⟩; (first | exact le.rfl_ | exact le.gs rfl | refine le.of_eq ?_ | refine le.gs ?_); rotate_left; (repeat (with_reducible first | exact SubP.refl | exact SubP.nil | refine SubP.pick ?_ | refine Out.here ?_ | refine Out.next ?_ | refine SubP.drop ?_))); done)
  | (have hr : rightB l = true := by assumption
     have e : addM l ⟨x1, x2, x3⟩ = _ := addM_old hr (.inl hb)
     rw [e]; (refine ⟨_, _, ?_, ⟨rfl, rfl⟩, ?_⟩; (first | exact le.rfl_ | exact le.gs rfl | refine le.of_eq ?_ | refine le.gs ?_); rotate_left; (repeat (with_reducible first | exact SubP.refl | exact SubP.nil | refine SubP.pick ?_ | refine Out.here ?_ | refine Out.next ?_ | refine SubP.drop ?_))); done)
  | (have hr : rightB l = true := by assumption
     have e := put_add hr hb
     rw [← e]; (refine ⟨_, _, ?_, ⟨rfl, rfl⟩, ?_⟩; (first | exact le.rfl_ | exact le.gs rfl | refine le.of_eq ?_ | refine le.gs ?_); rotate_left; (repeat (with_reducible first | exact SubP.refl | exact SubP.nil | refine SubP.pick ?_ | refine Out.here ?_ | refine Out.next ?_ | refine SubP.drop ?_))); done)
end Go.Proofs.YtfamfamgopchnaaGreatDoor
