/- Views are made. -/
import Derived.Test.YtdplieimkphneaaVx1
import Derived.KernelRfl
namespace Go.Proofs.Ytdplieimkphneaa
open Go.RowKit
set_option linter.unusedSimpArgs false
set_option linter.unusedVariables false
set_option linter.unusedSectionVars false
set_option maxHeartbeats 4000000
set_option maxRecDepth 100000
attribute [local irreducible] DW SeqD DV DOp DC

/-- A view's cells: whose it is, and of each node an epoch and a time. -/
def encH (h : Int × Int) : List V := [.int .i64 h.1, .int .i64 h.2]
theorem encH_len : ∀ h, (encH h).length = 2 := fun _ => rfl
theorem fh_len (l : List (Int × Int)) : (flt encH l).length = l.length * 2 := flt_len encH_len l
theorem fh0 (l : List (Int × Int)) (i : Nat) (h : i < l.length) : (flt encH l).getD (i * 2) .any = .int .i64 (l.getD i default).1 := flt_at encH_len l i 0 h (by omega)
theorem fh1 (l : List (Int × Int)) (i : Nat) (h : i < l.length) : (flt encH l).getD (i * 2 + 1) .any = .int .i64 (l.getD i default).2 := flt_at encH_len l i 1 h (by omega)
theorem fh_row (l : List (Int × Int)) (i : Nat) (h : i < l.length) : ((flt encH l).drop (i * 2)).take 2 = [.int .i64 (l.getD i default).1, .int .i64 (l.getD i default).2] := flt_row encH_len l i h
theorem fh_set (l : List (Int × Int)) (i : Nat) (x y : Int) (h : i < l.length) : layV (flt encH l) (i * 2) [.int .i64 x, .int .i64 y] = flt encH (l.set i (x, y)) := flt_set encH_len l i (x, y) h
abbrev viewO (b c m : Nat) (self : Int) (l : List (Int × Int)) : Own := [.blk b [.raw (.slice (some ⟨c, 0, none⟩) m m), .int .i64 self], .blk c (flt encH l)]
/-- The same, as the reference has it. -/
def pad (l : List Int) : List V := (l ++ List.replicate (16 - l.length) 0).map (V.int .i64)
def refC (self : Int) (l : List (Int × Int)) : List V := .int .i64 l.length :: .int .i64 self :: (pad (l.map (·.1)) ++ pad (l.map (·.2)))
abbrev refO (b : Nat) (self : Int) (l : List (Int × Int)) : Own := [.blk b (refC self l)]
theorem pad_len (l : List Int) (h : l.length ≤ 16) : (pad l).length = 16 := by simp [pad]; omega
theorem pad_at (l : List Int) (i : Nat) (h : i < l.length) : (pad l).getD i .any = .int .i64 (l.getD i 0) := by
  simp only [pad, List.getD_eq_getElem?_getD, List.getElem?_map]
  rw [List.getElem?_append_left h]
  simp [h]
theorem pad_set (l : List Int) (i : Nat) (x : Int) (h : i < l.length) : layV (pad l) i [.int .i64 x] = pad (l.set i x) := by
  apply List.ext_getElem
  · simp [layV, pad]; omega
  · intro k h1 h2
    have hk : k < (pad l).length := by simp [pad] at h2 ⊢; exact h2
    have e := (lay_at (pad l) [.int .i64 x] i (by simp [pad]; omega)).2 k
    rw [getD_el _ _ h1] at e
    rw [e]
    simp only [List.length_singleton]
    split
    · rename_i hki
      have : k = i := by omega
      subst this
      simp [pad, List.getElem_append_left, h]
    · rename_i hki
      rw [getD_el _ _ hk]
      simp only [pad, List.getElem_map, List.length_set]
      congr 1
      by_cases hkl : k < l.length
      · rw [List.getElem_append_left hkl, List.getElem_append_left (by simpa using hkl), List.getElem_set_ne (by omega)]
      · rw [List.getElem_append_right (by omega), List.getElem_append_right (by simp; omega)]
        simp
theorem refC_len (self : Int) (l : List (Int × Int)) (h : l.length ≤ 16) : (refC self l).length = 34 := by simp [refC, pad_len, h]
theorem refC_0 (self : Int) (l : List (Int × Int)) : (refC self l).getD 0 .any = .int .i64 l.length := rfl
theorem refC_1 (self : Int) (l : List (Int × Int)) : (refC self l).getD 1 .any = .int .i64 self := rfl
theorem refC_E (self : Int) (l : List (Int × Int)) (i : Nat) (h : i < l.length) (hl : l.length ≤ 16) : (refC self l).getD (2 + i) .any = .int .i64 (l.getD i default).1 := by
  rw [show 2 + i = i + 1 + 1 by omega]
  simp only [refC, List.getD_cons_succ]
  have := pad_at (l.map (·.1)) i (by simpa using h)
  simp only [List.getD_eq_getElem?_getD] at this ⊢
  rw [List.getElem?_append_left (by rw [pad_len _ (by simpa using hl)]; omega), this]
  simp [h]
theorem refC_A (self : Int) (l : List (Int × Int)) (i : Nat) (h : i < l.length) (hl : l.length ≤ 16) : (refC self l).getD (18 + i) .any = .int .i64 (l.getD i default).2 := by
  rw [show 18 + i = 16 + i + 1 + 1 by omega]
  simp only [refC, List.getD_cons_succ]
  have := pad_at (l.map (·.2)) i (by simpa using h)
  have hp := pad_len (l.map (·.1)) (by simpa using hl)
  simp only [List.getD_eq_getElem?_getD] at this ⊢
  rw [List.getElem?_append_right (by rw [hp]; omega), hp, Nat.add_sub_cancel_left, this]
  simp [h]
theorem lay_left (l m d : List V) (i : Nat) (h : i + d.length ≤ l.length) : layV (l ++ m) i d = layV l i d ++ m := by
  simp only [layV]
  rw [List.take_append_of_le_length (by omega), List.drop_append_of_le_length h]; simp
theorem lay_right (l m d : List V) (i : Nat) : layV (l ++ m) (l.length + i) d = l ++ layV m i d := by
  simp only [layV]
  rw [List.take_append, List.drop_append]
  simp [List.take_of_length_le, Nat.add_assoc, List.drop_eq_nil_of_le]
theorem refC_set (self : Int) (l : List (Int × Int)) (i : Nat) (e t : Int) (h : i < l.length) (hl : l.length ≤ 16) : layV (layV (refC self l) (2 + i) [.int .i64 e]) (18 + i) [.int .i64 t] = refC self (l.set i (e, t)) := by
  have p1 := pad_len (l.map (·.1)) (by simpa using hl)
  have p2 := pad_len ((l.map (·.1)).set i e) (by simpa using hl)
  rw [show 2 + i = i + 1 + 1 by omega, show 18 + i = 16 + i + 1 + 1 by omega]
  simp only [refC, lay_cons]
  rw [lay_left _ _ _ _ (by simp [p1]; omega), pad_set _ _ _ (by simpa using h)]
  have := lay_right (pad ((l.map (·.1)).set i e)) (pad (l.map (·.2))) [.int .i64 t] i
  rw [p2] at this
  rw [this, pad_set _ _ _ (by simpa using h)]
  simp [List.map_set]
def clampN (n : Int) : Int := min (max n 1) 16
def clampS (n self : Int) : Int := min (max self 0) (clampN n - 1)
theorem clampN_b (n : Int) : 1 ≤ clampN n ∧ clampN n ≤ 16 := by unfold clampN; omega
theorem new_dc (n self now : Int) (F : Own) : (-9223372036854775808 ≤ n ∧ n ≤ 9223372036854775807) → DC Try.prog 13 [.int .i64 n, .int .i64 self, .int .i64 now] (([] : Own) ++ F) fun d G => ∃ b c, d = .raw (.pointer (some ⟨b, 0, none⟩)) ∧ G = viewO b c (clampN n).toNat (clampS n self) (List.replicate (clampN n).toNat (0, 0)) ++ F := by
  intro hA
  have hn := hA
  refine DC.bodyS (n_ := 19) (show Try.prog.funcs[13]? = some Try.f13 by kernel_rfl) rfl rfl (by rfl) ?_
  simp only [env0, List.cons_append, List.nil_append]
  repeat' (first
    | with_reducible refine DW.sq ?_
    | with_reducible refine DW.block ?_
    | with_reducible refine DW.skip ?_
    | with_reducible refine DW.exit ?_
    | ((with_reducible refine DW.ret ?_))
    | with_reducible refine then_n ?_
    | with_reducible refine then_x ?_
    | with_reducible refine then_r ?_
    | with_reducible refine blk_n ?_
    | with_reducible refine blk_r ?_
    | with_reducible refine blk_x ?_
    | with_reducible refine blk_y (by decide) ?_
    | with_reducible refine Next.go ?_
    | with_reducible refine SeqD.nil ?_
    | with_reducible refine DV.nil ?_
    | ((with_reducible refine And.intro ?_ ?_); (first | exact True.intro | omega | assumption | (simp <;> fail) | (simp; omega) | (refine ⟨?_, ?_⟩ <;> first | omega | assumption | (simp <;> fail) | (simp; omega)) | (refine ⟨?_, ?_, ?_⟩ <;> first | omega | assumption | (simp <;> fail) | (simp; omega))))
    | ((with_reducible refine DW.ct ?_ ?_); (simp only [opd_tmp, opd_const, ofConst, ofConst1, get_cons, Nat.reduceEqDiff, ↓reduceIte, if_true, if_false] <;> fail))
    | ((with_reducible refine DW.cf ?_ ?_); (simp only [opd_tmp, opd_const, ofConst, ofConst1, get_cons, Nat.reduceEqDiff, ↓reduceIte, if_true, if_false] <;> fail))
    | (refine DW.cond (by rfl) (fun hb => ?_) (fun hb => ?_) <;> (try simp only [decide_eq_true_eq, decide_eq_false_iff_not, beq_iff_eq, bne_iff_ne, ne_eq, beq_eq_false_iff_ne, bne_eq_false_iff_eq, Bool.and_eq_true, Bool.and_true, Bool.not_eq_true', Bool.not_eq_false', Int.not_lt, Int.not_le, not_and, Bool.not_eq_eq_eq_not, Bool.not_true, Bool.not_false, tEq, fEq, Bool.not_eq_true, Bool.not_eq_false, Int.reduceBEq, Int.reduceBNe, Int.reduceEq] at hb; try (exfalso; omega)))
    | ((first | ((with_reducible refine DW.regK [0, 1, 6] (by kernel_rfl) ?_); refine SeqD.go (own := [11, 18]) _ _ ?_) | (with_reducible refine ret_r rfl ?_) | (with_reducible refine ret_n rfl ?_) | ((with_reducible refine FVg_cases (fun hb => ?_) (fun hb => ?_)) <;> (rw [hb]; try simp only [decide_eq_true_eq, decide_eq_false_iff_not, beq_iff_eq, bne_iff_ne, ne_eq, beq_eq_false_iff_ne, bne_eq_false_iff_eq, Bool.and_eq_true, Bool.and_true, Bool.not_eq_true', Bool.not_eq_false', Int.not_lt, Int.not_le, not_and, Bool.not_eq_eq_eq_not, Bool.not_true, Bool.not_false, tEq, fEq, Bool.not_eq_true, Bool.not_eq_false, Int.reduceBEq, Int.reduceBNe, Int.reduceEq] at hb; try (exfalso; omega))) | ((with_reducible first | refine SeqD.opF [11, 18] rfl ?_ | refine SeqD.opgF [11, 18] rfl rfl ?_); (first | (refine DOp.alloc_ rfl ?_) | (refine DOp.box_ rfl ?_) | (refine DOp.list_ rfl ?_) | (refine DOp.store_ rfl rfl ?_; (repeat (first | (with_reducible refine OnB.here ?_) | (with_reducible refine OnB.mid ?_) | (with_reducible refine OnB.next ?_)))) | (refine DOp.load_ rfl rfl ?_; (repeat (first | (with_reducible refine OnB.here ?_) | (with_reducible refine OnB.mid ?_) | (with_reducible refine OnB.next ?_)))) | (refine DOp.loada_ rfl rfl ?_; (repeat (first | (with_reducible refine OnA.here ?_) | (with_reducible refine OnA.next ?_)))) | (refine DOp.storea_ rfl rfl ?_; (repeat (first | (with_reducible refine OnA.here ?_) | (with_reducible refine OnA.next ?_)))) | (refine DOp.appa_ rfl rfl rfl ?_; (repeat (first | (with_reducible refine OnA.here ?_) | (with_reducible refine OnA.next ?_)))) | (refine DOp.appz_ rfl rfl rfl ?_; (repeat (first | (with_reducible refine OnT.here ?_) | (with_reducible refine OnT.next ?_)))) | (refine DOp.append0_ rfl rfl rfl ?_) | (refine DOp.make_ rfl rfl rfl ?_) | (refine DOp.make0_ rfl rfl rfl ?_)))) <;> (simp (maxSteps := 1000000) (disch := omega) only [push_cast, ↓reduceIte, reduceCtorEq, Nat.reduceAdd, Nat.reduceMul, Nat.reduceLT, Nat.reduceLeDiff, Nat.reduceEqDiff, Nat.reduceSub, Int.reduceToNat, Int.reduceLT, Int.reduceLE, Int.reduceAdd, Int.reduceSub, Int.reduceMul, Int.reduceNeg, Nat.reduceBEq, Int.reduceBEq, Int.reduceBNe, Nat.reduceBNe, Int.reduceEq]))
    | with_reducible intro b)
  rename_i c
  refine ⟨_, _, le.rfl_, ⟨_, c, rfl, rfl⟩, SubP.eq ?_⟩
  rw [show ([V.int IntKind.i64 0, V.int IntKind.i64 0] : List V) = encH (0, 0) from rfl, rep_flt]
  simp [viewO, clampN, clampS]
theorem rnew_dc (n self now : Int) (F : Own) : (-9223372036854775808 ≤ n ∧ n ≤ 9223372036854775807) → DC Try.prog 14 [.int .i64 n, .int .i64 self, .int .i64 now] (([] : Own) ++ F) fun d G => ∃ b, d = .raw (.pointer (some ⟨b, 0, none⟩)) ∧ G = refO b (clampS n self) (List.replicate (clampN n).toNat (0, 0)) ++ F := by
  intro hA
  have hn := hA
  refine DC.bodyS (n_ := 18) (show Try.prog.funcs[14]? = some Try.f14 by kernel_rfl) rfl rfl (by rfl) ?_
  simp only [env0, List.cons_append, List.nil_append]
  repeat' (first
    | with_reducible refine DW.sq ?_
    | with_reducible refine DW.block ?_
    | with_reducible refine DW.skip ?_
    | with_reducible refine DW.exit ?_
    | ((with_reducible refine DW.ret ?_))
    | with_reducible refine then_n ?_
    | with_reducible refine then_x ?_
    | with_reducible refine then_r ?_
    | with_reducible refine blk_n ?_
    | with_reducible refine blk_r ?_
    | with_reducible refine blk_x ?_
    | with_reducible refine blk_y (by decide) ?_
    | with_reducible refine Next.go ?_
    | with_reducible refine SeqD.nil ?_
    | with_reducible refine DV.nil ?_
    | ((with_reducible refine And.intro ?_ ?_); (first | exact True.intro | omega | assumption | (simp <;> fail) | (simp; omega) | (refine ⟨?_, ?_⟩ <;> first | omega | assumption | (simp <;> fail) | (simp; omega)) | (refine ⟨?_, ?_, ?_⟩ <;> first | omega | assumption | (simp <;> fail) | (simp; omega))))
    | ((with_reducible refine DW.ct ?_ ?_); (simp only [opd_tmp, opd_const, ofConst, ofConst1, get_cons, Nat.reduceEqDiff, ↓reduceIte, if_true, if_false] <;> fail))
    | ((with_reducible refine DW.cf ?_ ?_); (simp only [opd_tmp, opd_const, ofConst, ofConst1, get_cons, Nat.reduceEqDiff, ↓reduceIte, if_true, if_false] <;> fail))
    | (refine DW.cond (by rfl) (fun hb => ?_) (fun hb => ?_) <;> (try simp only [decide_eq_true_eq, decide_eq_false_iff_not, beq_iff_eq, bne_iff_ne, ne_eq, beq_eq_false_iff_ne, bne_eq_false_iff_eq, Bool.and_eq_true, Bool.and_true, Bool.not_eq_true', Bool.not_eq_false', Int.not_lt, Int.not_le, not_and, Bool.not_eq_eq_eq_not, Bool.not_true, Bool.not_false, tEq, fEq, Bool.not_eq_true, Bool.not_eq_false, Int.reduceBEq, Int.reduceBNe, Int.reduceEq] at hb; try (exfalso; omega)))
    | ((first | ((with_reducible refine DW.regK [0, 1, 6] (by kernel_rfl) ?_); refine SeqD.go (own := [17]) _ _ ?_) | (with_reducible refine ret_r rfl ?_) | (with_reducible refine ret_n rfl ?_) | ((with_reducible refine FVg_cases (fun hb => ?_) (fun hb => ?_)) <;> (rw [hb]; try simp only [decide_eq_true_eq, decide_eq_false_iff_not, beq_iff_eq, bne_iff_ne, ne_eq, beq_eq_false_iff_ne, bne_eq_false_iff_eq, Bool.and_eq_true, Bool.and_true, Bool.not_eq_true', Bool.not_eq_false', Int.not_lt, Int.not_le, not_and, Bool.not_eq_eq_eq_not, Bool.not_true, Bool.not_false, tEq, fEq, Bool.not_eq_true, Bool.not_eq_false, Int.reduceBEq, Int.reduceBNe, Int.reduceEq] at hb; try (exfalso; omega))) | ((with_reducible first | refine SeqD.opF [17] rfl ?_ | refine SeqD.opgF [17] rfl rfl ?_); (first | (refine DOp.alloc_ rfl ?_) | (refine DOp.box_ rfl ?_) | (refine DOp.list_ rfl ?_) | (refine DOp.store_ rfl rfl ?_; (repeat (first | (with_reducible refine OnB.here ?_) | (with_reducible refine OnB.mid ?_) | (with_reducible refine OnB.next ?_)))) | (refine DOp.load_ rfl rfl ?_; (repeat (first | (with_reducible refine OnB.here ?_) | (with_reducible refine OnB.mid ?_) | (with_reducible refine OnB.next ?_)))) | (refine DOp.loada_ rfl rfl ?_; (repeat (first | (with_reducible refine OnA.here ?_) | (with_reducible refine OnA.next ?_)))) | (refine DOp.storea_ rfl rfl ?_; (repeat (first | (with_reducible refine OnA.here ?_) | (with_reducible refine OnA.next ?_)))) | (refine DOp.appa_ rfl rfl rfl ?_; (repeat (first | (with_reducible refine OnA.here ?_) | (with_reducible refine OnA.next ?_)))) | (refine DOp.appz_ rfl rfl rfl ?_; (repeat (first | (with_reducible refine OnT.here ?_) | (with_reducible refine OnT.next ?_)))) | (refine DOp.append0_ rfl rfl rfl ?_) | (refine DOp.make_ rfl rfl rfl ?_) | (refine DOp.make0_ rfl rfl rfl ?_)))) <;> (simp (maxSteps := 1000000) (disch := omega) only [push_cast, ↓reduceIte, reduceCtorEq, Nat.reduceAdd, Nat.reduceMul, Nat.reduceLT, Nat.reduceLeDiff, Nat.reduceEqDiff, Nat.reduceSub, Int.reduceToNat, Int.reduceLT, Int.reduceLE, Int.reduceAdd, Int.reduceSub, Int.reduceMul, Int.reduceNeg, Nat.reduceBEq, Int.reduceBEq, Int.reduceBNe, Nat.reduceBNe, Int.reduceEq]))
    | with_reducible intro b)
  refine ⟨_, _, le.rfl_, ⟨_, rfl, rfl⟩, SubP.eq ?_⟩
  have hc := clampN_b n
  have e : ∀ k : Nat, k ≤ 16 → List.replicate k (0:Int) ++ List.replicate (16 - k) 0 = List.replicate 16 0 := fun k hk => by rw [List.replicate_append_replicate]; congr 1; omega
  simp only [refO, refC, pad, List.map_replicate, List.length_replicate, e _ (show (clampN n).toNat ≤ 16 by omega), List.cons_append, List.nil_append]
  have e2 : ((clampN n).toNat : Int) = clampN n := by omega
  rw [e2]
  rfl
end Go.Proofs.Ytdplieimkphneaa
