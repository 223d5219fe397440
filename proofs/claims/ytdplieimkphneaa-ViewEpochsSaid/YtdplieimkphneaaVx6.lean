/- Epochs never go back. -/
import Derived.Test.YtdplieimkphneaaVx5
import Derived.KernelRfl
namespace Go.Proofs.Ytdplieimkphneaa
open Go.RowKit
set_option linter.unusedSimpArgs false
set_option linter.unusedVariables false
set_option linter.unusedSectionVars false
set_option maxHeartbeats 4000000
set_option maxRecDepth 100000
attribute [local irreducible] DW SeqD DV DOp DC

/-- A byte's datum. -/
def encB (x : Int) : V := .int .u8 x
theorem bytesD (l : List Int) (h : ∀ x ∈ l, 0 ≤ x ∧ x ≤ 255) (i : Nat) : 0 ≤ l.getD i default ∧ l.getD i default ≤ 255 := by
  rw [List.getD_eq_getElem?_getD]
  by_cases hi : i < l.length
  · rw [List.getElem?_eq_getElem hi]; exact h _ (List.getElem_mem hi)
  · rw [List.getElem?_eq_none (by omega)]; decide
theorem near2 (t a : Int) (h : -1099511627776 ≤ a ∧ a ≤ 1099511627776) : Near [(0, 0), (t, a)] := by
  intro x hx
  simp only [List.mem_cons, List.not_mem_nil, or_false] at hx
  rcases hx with rfl | rfl
  · decide
  · exact h
theorem nearZ_in (n : Int) (h : -1099511627776 ≤ n ∧ n ≤ 1099511627776) : nearZ n = n := by unfold nearZ; omega
theorem epoch20 (t a : Int) : epochV [(0, 0), (t, a)] 0 = 0 := by simp [epochV]
theorem epoch21 (t a : Int) : epochV [(0, 0), (t, a)] 1 = t := by simp [epochV]
theorem epoch22 (t a : Int) : epochV [(0, 0), (t, a)] 2 = 0 := by simp [epochV]
theorem epoch23 (t a : Int) : epochV [(0, 0), (t, a)] (-1) = 0 := by simp [epochV]
theorem hear2_dc (b c : Nat) (t a e i : Int) (F : Own) : (-1099511627776 ≤ i ∧ i ≤ 1099511627776) → DC Try.prog 15 [.raw (.pointer (some ⟨b, 0, none⟩)), .int .i64 1, .int .i64 e, .int .i64 i] (viewO b c 2 0 [(0, 0), (t, a)] ++ F) fun d G =>
    (1 ≤ e ∧ t ≤ e ∧ d = .bool true ∧ G = viewO b c 2 0 [(0, 0), (e, i)] ++ F) ∨ ((e < 1 ∨ e < t) ∧ d = .bool false ∧ G = viewO b c 2 0 [(0, 0), (t, a)] ++ F) := fun hi =>
  (hear_dc b c 2 0 [(0, 0), (t, a)] 1 e i F ⟨rfl, by decide⟩).mono fun d G h => by
    obtain ⟨h1, h2⟩ := h
    by_cases hc : 1 ≤ e ∧ t ≤ e
    · left
      have hB : hearB 0 [(0, 0), (t, a)] 1 e = true := by unfold hearB; exact decide_eq_true (by simp; exact hc)
      rw [hB] at h1
      refine ⟨hc.1, hc.2, h1, ?_⟩
      rw [h2]; simp [hearL, hB, nearZ_in i hi]
    · right
      have hB : hearB 0 [(0, 0), (t, a)] 1 e = false := by unfold hearB; exact decide_eq_false (by simp; omega)
      rw [hB] at h1
      refine ⟨by omega, h1, ?_⟩
      rw [h2]; simp [hearL, hB]
theorem late2_of (t a now : Int) (fs : List (Int × Int)) (hn : -1099511627776 ≤ now ∧ now ≤ 1099511627776) : lateK [(0, 0), (t, a)] fs now 2 = if 0 < t ∧ 6 < now - a ∧ fencedB fs 1 t = false then [(1, t)] else [] := by
  rw [lateK_more, lateK_more]
  have h0 : lateC [(0, 0), (t, a)] fs now 0 = false := by simp [lateC]
  have h1 : lateC [(0, 0), (t, a)] fs now 1 = decide (0 < t ∧ 6 < now - a ∧ fencedB fs 1 t = false) := by
    simp only [lateC, List.getD_cons_succ, List.getD_cons_zero, nearZ_in now hn]
    by_cases hx : 0 < t <;> by_cases hy : 6 < now - a <;> cases hz : fencedB fs 1 t <;> simp_all
  have h2 : lateK [(0, 0), (t, a)] fs now 0 = [] := by simp [lateK]
  by_cases hc : 0 < t ∧ 6 < now - a ∧ fencedB fs 1 t = false
  · rw [h2, h0, h1, if_pos (decide_eq_true hc), if_pos hc]; rfl
  · rw [h2, h0, h1, decide_eq_false hc, if_neg hc]; rfl
theorem late2_dc (b c : Nat) (t a now : Int) (F : Own) : (-1099511627776 ≤ a ∧ a ≤ 1099511627776) ∧ -1099511627776 ≤ now ∧ now ≤ 1099511627776 → DC Try.prog 18 [.raw (.pointer (some ⟨b, 0, none⟩)), .int .i64 now, .gs (.slice none 0 0) []] (viewO b c 2 0 [(0, 0), (t, a)] ++ F) fun d G =>
    (0 < t ∧ 6 < now - a ∧ d = .sl [encF (1, t)] ∧ G = viewO b c 2 0 [(0, 0), (t, a)] ++ F) ∨ ((t ≤ 0 ∨ now - a ≤ 6) ∧ d = .sl [] ∧ G = viewO b c 2 0 [(0, 0), (t, a)] ++ F) := fun hi =>
  (DC.args (Les.cons le.rfl_ (Les.cons le.rfl_ (Les.cons (le.gs List.map_nil.symm) Les.nil))) (late_dc b c 2 0 [(0, 0), (t, a)] [] now F ⟨⟨rfl, by decide⟩, near2 _ _ hi.1, by simp⟩)).mono fun d G h => by
    obtain ⟨h1, h2⟩ := h
    have e := late2_of t a now [] hi.2
    simp only [List.length_cons, List.length_nil] at h1
    rw [e] at h1
    by_cases hc : 0 < t ∧ 6 < now - a
    · rw [if_pos ⟨hc.1, hc.2, rfl⟩] at h1
      exact .inl ⟨hc.1, hc.2, h1, h2⟩
    · rw [if_neg fun h => hc ⟨h.1, h.2.1⟩] at h1
      exact .inr ⟨by omega, h1, h2⟩
theorem late2f_dc (b c : Nat) (t a now : Int) (F : Own) : ((-1099511627776 ≤ a ∧ a ≤ 1099511627776) ∧ -1099511627776 ≤ now ∧ now ≤ 1099511627776) ∧ t ≤ 6 → DC Try.prog 18 [.raw (.pointer (some ⟨b, 0, none⟩)), .int .i64 now, .sl [.agg [.int .i64 1, .int .i64 6]]] (viewO b c 2 0 [(0, 0), (t, a)] ++ F) fun d G =>
    d = .sl [] ∧ G = viewO b c 2 0 [(0, 0), (t, a)] ++ F := fun hi =>
  (late_dc b c 2 0 [(0, 0), (t, a)] [(1, 6)] now F ⟨⟨rfl, by decide⟩, near2 _ _ hi.1.1, by simp⟩).mono fun d G h => by
    obtain ⟨h1, h2⟩ := h
    have e := late2_of t a now [(1, 6)] hi.1.2
    simp only [List.length_cons, List.length_nil] at h1
    rw [e, if_neg fun h => by have := h.2.2; simp [fencedB] at this; omega] at h1
    exact ⟨h1, h2⟩
theorem new2_dc (F : Own) : True → DC Try.prog 13 [.int .i64 2, .int .i64 0, .int .i64 0] (([] : Own) ++ F) fun d G => ∃ b c, d = .raw (.pointer (some ⟨b, 0, none⟩)) ∧ G = viewO b c 2 0 [(0, 0), (0, 0)] ++ F := fun _ =>
  (new_dc 2 0 0 F ⟨by decide, by decide⟩).mono fun d G h => h
theorem knC2 : True = True := rfl
theorem viewEpochs_dc (l : List Int) (F : Own) : (∀ x ∈ l, 0 ≤ x ∧ x ≤ 255) → DC Try.prog 5 [.sl (l.map encB)] (([] : Own) ++ F) fun d G => d = .bool true ∧ G = [] ++ F := by
  intro hA
  have hl := hA
  refine DC.bodyS (n_ := 95) (show Try.prog.funcs[5]? = some Try.f5 by kernel_rfl) rfl rfl (by rfl) ?_
  simp only [env0, viewO, List.cons_append, List.nil_append]
  repeat' (first
    | ((with_reducible refine DW.loopB 0 (X := Nat × Int × Int) (fun x => x.1 ≤ l.length ∧ 0 ≤ x.2.1 ∧ x.2.1 ≤ 5 ∧ 0 ≤ x.2.2 ∧ x.2.2 ≤ x.1) (fun x => [(0, .sl (l.map encB)), (3, .raw (.pointer (some ⟨p, 0, none⟩))), (4, .int .i64 x.2.1), (5, .int .i64 x.2.2), (6, .int .i64 x.1)]) (fun x => viewO p c 2 0 [(0, 0), (x.2.1, x.2.2)]) (fun x => l.length - x.1) ((0, 0, 0)) ?_ ?_ ?_); exact (⟨Nat.zero_le _, by decide, by decide, by decide, by decide⟩); (simp [Sub, get, keepL] <;> fail); (try simp only [viewO, List.cons_append, List.nil_append]); (repeat (first | (with_reducible refine Pull.nil ?_) | (with_reducible refine Pull.cons ?_) | (with_reducible refine Out.here ?_) | (with_reducible refine Out.next ?_))); intro ⟨i, t, a⟩ ⟨hi, ht0, ht5, ha0, hai⟩; (try simp only [viewO, List.cons_append, List.nil_append]); simp only at hi ht0 ht5 ha0 hai; have hx := bytesD l hl i; have h6 := tmod_b (l.getD i default) 6 (by omega); have h60 := Int.tmod_nonneg (a := l.getD i default) 6 hx.1; have h70 := Int.tdiv_nonneg (a := l.getD i default) (b := 6) hx.1 (by omega); have h71 := Int.tdiv_le_self 6 hx.1)
    | with_reducible refine DW.sq ?_
    | with_reducible refine DW.block ?_
    | with_reducible refine DW.skip ?_
    | with_reducible refine DW.exit ?_
    | ((with_reducible refine DW.ret ?_))
    | with_reducible refine then_n ?_
    | with_reducible refine then_x ?_
    | with_reducible refine then_r ?_
    | with_reducible refine blk_n ?_
    | with_reducible refine blk_r ?_
    | with_reducible refine blk_x ?_
    | with_reducible refine blk_y (by decide) ?_
    | with_reducible refine Next.go ?_
    | with_reducible refine SeqD.nil ?_
    | with_reducible refine DV.nil ?_
    | ((with_reducible refine And.intro ?_ ?_); (first | exact True.intro | omega | (refine ⟨⟨?_, ?_⟩, ?_, ?_⟩ <;> first | exact True.intro | omega | assumption | (simp only [hearL_len]; omega) | (refine Nat.le_trans (lateK_len _ _ _ _) ?_; (try simp only [hearL_len]); omega) | (exact hearL_near _ _ _ _ _ (by assumption)) | (simp <;> fail) | (simp; omega) | exact nearK1 | exact nearK2) | (refine ⟨?_, ?_, ?_⟩ <;> first | exact True.intro | omega | assumption | (simp only [hearL_len]; omega) | (refine Nat.le_trans (lateK_len _ _ _ _) ?_; (try simp only [hearL_len]); omega) | (exact hearL_near _ _ _ _ _ (by assumption)) | (simp <;> fail) | (simp; omega) | exact nearK1 | exact nearK2) | (refine ⟨?_, ?_⟩ <;> first | exact True.intro | omega | assumption | (simp only [hearL_len]; omega) | (refine Nat.le_trans (lateK_len _ _ _ _) ?_; (try simp only [hearL_len]); omega) | (exact hearL_near _ _ _ _ _ (by assumption)) | (simp <;> fail) | (simp; omega) | exact nearK1 | exact nearK2) | assumption | (simp <;> fail) | (simp; omega)))
    | ((with_reducible refine DW.ct ?_ ?_); (simp only [opd_tmp, opd_const, ofConst, ofConst1, get_cons, Nat.reduceEqDiff, ↓reduceIte, if_true, if_false] <;> fail))
    | ((with_reducible refine DW.cf ?_ ?_); (simp only [opd_tmp, opd_const, ofConst, ofConst1, get_cons, Nat.reduceEqDiff, ↓reduceIte, if_true, if_false] <;> fail))
    | (refine DW.cond (by rfl) (fun hb => ?_) (fun hb => ?_) <;> (try simp only [decide_eq_true_eq, decide_eq_false_iff_not, beq_iff_eq, bne_iff_ne, ne_eq, beq_eq_false_iff_ne, bne_eq_false_iff_eq, Bool.and_eq_true, Bool.and_true, Bool.not_eq_true', Bool.not_eq_false', Int.not_lt, Int.not_le, not_and, Bool.not_eq_eq_eq_not, Bool.not_true, Bool.not_false, tEq, fEq, Bool.not_eq_true, Bool.not_eq_false, Int.reduceBEq, Int.reduceBNe, Int.reduceEq] at hb; try (exfalso; omega)))
    | ((first | ((with_reducible refine DW.regK [0, 2, 3, 4, 5, 6, 7, 8, 9, 11, 14, 19, 41, 42, 81] (by kernel_rfl) ?_); refine SeqD.go (own := []) _ _ ?_) | (with_reducible refine ret_r rfl ?_) | (with_reducible refine ret_n rfl ?_) | ((with_reducible refine FVg_cases (fun hb => ?_) (fun hb => ?_)) <;> (rw [hb]; try simp only [decide_eq_true_eq, decide_eq_false_iff_not, beq_iff_eq, bne_iff_ne, ne_eq, beq_eq_false_iff_ne, bne_eq_false_iff_eq, Bool.and_eq_true, Bool.and_true, Bool.not_eq_true', Bool.not_eq_false', Int.not_lt, Int.not_le, not_and, Bool.not_eq_eq_eq_not, Bool.not_true, Bool.not_false, tEq, fEq, Bool.not_eq_true, Bool.not_eq_false, Int.reduceBEq, Int.reduceBNe, Int.reduceEq] at hb; try (exfalso; omega))) | ((with_reducible first | refine SeqD.opF [] rfl ?_ | refine SeqD.opgF [] rfl rfl ?_); (first | (apply DOp.callp_ rfl rfl (h := new2_dc _); (repeat (first | exact Les.nil | refine Les.cons le.rfl_ ?_ | refine Les.cons (le.gs rfl) ?_ | refine Les.cons (le.gs List.map_nil.symm) ?_)); (repeat (first | (with_reducible exact Pulled.nil) | (with_reducible apply Pulled.cons) | (with_reducible exact Took.here) | (with_reducible apply Took.next))); refine And.intro ?_ ?_; (first | exact True.intro | omega | (refine ⟨⟨?_, ?_⟩, ?_, ?_⟩ <;> first | exact True.intro | omega | assumption | (simp only [hearL_len]; omega) | (refine Nat.le_trans (lateK_len _ _ _ _) ?_; (try simp only [hearL_len]); omega) | (exact hearL_near _ _ _ _ _ (by assumption)) | (simp <;> fail) | (simp; omega) | exact nearK1 | exact nearK2) | (refine ⟨?_, ?_, ?_⟩ <;> first | exact True.intro | omega | assumption | (simp only [hearL_len]; omega) | (refine Nat.le_trans (lateK_len _ _ _ _) ?_; (try simp only [hearL_len]); omega) | (exact hearL_near _ _ _ _ _ (by assumption)) | (simp <;> fail) | (simp; omega) | exact nearK1 | exact nearK2) | (refine ⟨?_, ?_⟩ <;> first | exact True.intro | omega | assumption | (simp only [hearL_len]; omega) | (refine Nat.le_trans (lateK_len _ _ _ _) ?_; (try simp only [hearL_len]); omega) | (exact hearL_near _ _ _ _ _ (by assumption)) | (simp <;> fail) | (simp; omega) | exact nearK1 | exact nearK2) | assumption | (simp <;> fail) | (simp; omega)); rintro d H1 ⟨p, c, rfl, rfl⟩) | (apply DOp.callp_ rfl rfl (h := hear2_dc _ _ _ _ _ _ _); (repeat (first | exact Les.nil | refine Les.cons le.rfl_ ?_ | refine Les.cons (le.gs rfl) ?_ | refine Les.cons (le.gs List.map_nil.symm) ?_)); (repeat (first | (with_reducible exact Pulled.nil) | (with_reducible apply Pulled.cons) | (with_reducible exact Took.here) | (with_reducible apply Took.next))); refine And.intro ?_ ?_; (first | exact True.intro | omega | (refine ⟨⟨?_, ?_⟩, ?_, ?_⟩ <;> first | exact True.intro | omega | assumption | (simp only [hearL_len]; omega) | (refine Nat.le_trans (lateK_len _ _ _ _) ?_; (try simp only [hearL_len]); omega) | (exact hearL_near _ _ _ _ _ (by assumption)) | (simp <;> fail) | (simp; omega) | exact nearK1 | exact nearK2) | (refine ⟨?_, ?_, ?_⟩ <;> first | exact True.intro | omega | assumption | (simp only [hearL_len]; omega) | (refine Nat.le_trans (lateK_len _ _ _ _) ?_; (try simp only [hearL_len]); omega) | (exact hearL_near _ _ _ _ _ (by assumption)) | (simp <;> fail) | (simp; omega) | exact nearK1 | exact nearK2) | (refine ⟨?_, ?_⟩ <;> first | exact True.intro | omega | assumption | (simp only [hearL_len]; omega) | (refine Nat.le_trans (lateK_len _ _ _ _) ?_; (try simp only [hearL_len]); omega) | (exact hearL_near _ _ _ _ _ (by assumption)) | (simp <;> fail) | (simp; omega) | exact nearK1 | exact nearK2) | assumption | (simp <;> fail) | (simp; omega)); rintro d H1 (⟨g1, g2, rfl, rfl⟩ | ⟨g1, rfl, rfl⟩)) | (apply DOp.callp_ rfl rfl (h := late2_dc _ _ _ _ _ _); (repeat (first | exact Les.nil | refine Les.cons le.rfl_ ?_ | refine Les.cons (le.gs rfl) ?_ | refine Les.cons (le.gs List.map_nil.symm) ?_)); (repeat (first | (with_reducible exact Pulled.nil) | (with_reducible apply Pulled.cons) | (with_reducible exact Took.here) | (with_reducible apply Took.next))); refine And.intro ?_ ?_; (first | exact True.intro | omega | (refine ⟨⟨?_, ?_⟩, ?_, ?_⟩ <;> first | exact True.intro | omega | assumption | (simp only [hearL_len]; omega) | (refine Nat.le_trans (lateK_len _ _ _ _) ?_; (try simp only [hearL_len]); omega) | (exact hearL_near _ _ _ _ _ (by assumption)) | (simp <;> fail) | (simp; omega) | exact nearK1 | exact nearK2) | (refine ⟨?_, ?_, ?_⟩ <;> first | exact True.intro | omega | assumption | (simp only [hearL_len]; omega) | (refine Nat.le_trans (lateK_len _ _ _ _) ?_; (try simp only [hearL_len]); omega) | (exact hearL_near _ _ _ _ _ (by assumption)) | (simp <;> fail) | (simp; omega) | exact nearK1 | exact nearK2) | (refine ⟨?_, ?_⟩ <;> first | exact True.intro | omega | assumption | (simp only [hearL_len]; omega) | (refine Nat.le_trans (lateK_len _ _ _ _) ?_; (try simp only [hearL_len]); omega) | (exact hearL_near _ _ _ _ _ (by assumption)) | (simp <;> fail) | (simp; omega) | exact nearK1 | exact nearK2) | assumption | (simp <;> fail) | (simp; omega)); rintro d H1 (⟨g3, g4, rfl, rfl⟩ | ⟨g3, rfl, rfl⟩)) | (apply DOp.callq_ rfl rfl (h := late2f_dc _ _ _ _ _ _); (repeat (first | exact Les.nil | refine Les.cons le.rfl_ ?_ | refine Les.cons (le.gs rfl) ?_ | refine Les.cons (le.gs List.map_nil.symm) ?_)); (repeat (first | (with_reducible exact Pulled.nil) | (with_reducible apply Pulled.cons) | (with_reducible exact Took.here) | (with_reducible apply Took.next))); refine And.intro ?_ ?_; (first | exact True.intro | omega | (refine ⟨⟨?_, ?_⟩, ?_, ?_⟩ <;> first | exact True.intro | omega | assumption | (simp only [hearL_len]; omega) | (refine Nat.le_trans (lateK_len _ _ _ _) ?_; (try simp only [hearL_len]); omega) | (exact hearL_near _ _ _ _ _ (by assumption)) | (simp <;> fail) | (simp; omega) | exact nearK1 | exact nearK2) | (refine ⟨?_, ?_, ?_⟩ <;> first | exact True.intro | omega | assumption | (simp only [hearL_len]; omega) | (refine Nat.le_trans (lateK_len _ _ _ _) ?_; (try simp only [hearL_len]); omega) | (exact hearL_near _ _ _ _ _ (by assumption)) | (simp <;> fail) | (simp; omega) | exact nearK1 | exact nearK2) | (refine ⟨?_, ?_⟩ <;> first | exact True.intro | omega | assumption | (simp only [hearL_len]; omega) | (refine Nat.le_trans (lateK_len _ _ _ _) ?_; (try simp only [hearL_len]); omega) | (exact hearL_near _ _ _ _ _ (by assumption)) | (simp <;> fail) | (simp; omega) | exact nearK1 | exact nearK2) | assumption | (simp <;> fail) | (simp; omega)); rintro d rfl) | (apply DOp.callq_ rfl rfl (h := epoch_dc _ _ _ _ _ _ _); (repeat (first | exact Les.nil | refine Les.cons le.rfl_ ?_ | refine Les.cons (le.gs rfl) ?_ | refine Les.cons (le.gs List.map_nil.symm) ?_)); (repeat (first | (with_reducible exact Pulled.nil) | (with_reducible apply Pulled.cons) | (with_reducible exact Took.here) | (with_reducible apply Took.next))); refine And.intro ?_ ?_; (first | exact True.intro | omega | (refine ⟨⟨?_, ?_⟩, ?_, ?_⟩ <;> first | exact True.intro | omega | assumption | (simp only [hearL_len]; omega) | (refine Nat.le_trans (lateK_len _ _ _ _) ?_; (try simp only [hearL_len]); omega) | (exact hearL_near _ _ _ _ _ (by assumption)) | (simp <;> fail) | (simp; omega) | exact nearK1 | exact nearK2) | (refine ⟨?_, ?_, ?_⟩ <;> first | exact True.intro | omega | assumption | (simp only [hearL_len]; omega) | (refine Nat.le_trans (lateK_len _ _ _ _) ?_; (try simp only [hearL_len]); omega) | (exact hearL_near _ _ _ _ _ (by assumption)) | (simp <;> fail) | (simp; omega) | exact nearK1 | exact nearK2) | (refine ⟨?_, ?_⟩ <;> first | exact True.intro | omega | assumption | (simp only [hearL_len]; omega) | (refine Nat.le_trans (lateK_len _ _ _ _) ?_; (try simp only [hearL_len]); omega) | (exact hearL_near _ _ _ _ _ (by assumption)) | (simp <;> fail) | (simp; omega) | exact nearK1 | exact nearK2) | assumption | (simp <;> fail) | (simp; omega)); rintro d rfl) | (apply DOp.callq_ rfl rfl (h := known_dc _); (repeat (first | exact Les.nil | refine Les.cons le.rfl_ ?_ | refine Les.cons (le.gs rfl) ?_ | refine Les.cons (le.gs List.map_nil.symm) ?_)); (repeat (first | (with_reducible exact Pulled.nil) | (with_reducible apply Pulled.cons) | (with_reducible exact Took.here) | (with_reducible apply Took.next))); refine And.intro ?_ ?_; (first | exact True.intro | omega | (refine ⟨⟨?_, ?_⟩, ?_, ?_⟩ <;> first | exact True.intro | omega | assumption | (simp only [hearL_len]; omega) | (refine Nat.le_trans (lateK_len _ _ _ _) ?_; (try simp only [hearL_len]); omega) | (exact hearL_near _ _ _ _ _ (by assumption)) | (simp <;> fail) | (simp; omega) | exact nearK1 | exact nearK2) | (refine ⟨?_, ?_, ?_⟩ <;> first | exact True.intro | omega | assumption | (simp only [hearL_len]; omega) | (refine Nat.le_trans (lateK_len _ _ _ _) ?_; (try simp only [hearL_len]); omega) | (exact hearL_near _ _ _ _ _ (by assumption)) | (simp <;> fail) | (simp; omega) | exact nearK1 | exact nearK2) | (refine ⟨?_, ?_⟩ <;> first | exact True.intro | omega | assumption | (simp only [hearL_len]; omega) | (refine Nat.le_trans (lateK_len _ _ _ _) ?_; (try simp only [hearL_len]); omega) | (exact hearL_near _ _ _ _ _ (by assumption)) | (simp <;> fail) | (simp; omega) | exact nearK1 | exact nearK2) | assumption | (simp <;> fail) | (simp; omega)); rintro d rfl) | (refine DOp.alloc_ rfl ?_) | (refine DOp.box_ rfl ?_) | (refine DOp.list_ rfl ?_) | (refine DOp.store_ rfl rfl ?_; (repeat (first | (with_reducible refine OnB.here ?_) | (with_reducible refine OnB.mid ?_) | (with_reducible refine OnB.next ?_)))) | (refine DOp.load_ rfl rfl ?_; (repeat (first | (with_reducible refine OnB.here ?_) | (with_reducible refine OnB.mid ?_) | (with_reducible refine OnB.next ?_)))) | (refine DOp.loada_ rfl rfl ?_; (repeat (first | (with_reducible refine OnA.here ?_) | (with_reducible refine OnA.next ?_)))) | (refine DOp.storea_ rfl rfl ?_; (repeat (first | (with_reducible refine OnA.here ?_) | (with_reducible refine OnA.next ?_)))) | (refine DOp.appa_ rfl rfl rfl ?_; (repeat (first | (with_reducible refine OnA.here ?_) | (with_reducible refine OnA.next ?_)))) | (refine DOp.appz_ rfl rfl rfl ?_; (repeat (first | (with_reducible refine OnT.here ?_) | (with_reducible refine OnT.next ?_)))) | (refine DOp.append0_ rfl rfl rfl ?_) | (refine DOp.make_ rfl rfl rfl ?_) | (refine DOp.make0_ rfl rfl rfl ?_)))) <;> (simp (maxSteps := 1000000) (disch := omega) only [push_cast, ↓reduceIte, reduceCtorEq, Nat.reduceAdd, Nat.reduceMul, Nat.reduceLT, Nat.reduceLeDiff, Nat.reduceEqDiff, Nat.reduceSub, Int.reduceToNat, Int.reduceLT, Int.reduceLE, Int.reduceAdd, Int.reduceSub, Int.reduceMul, Int.reduceNeg, Nat.reduceBEq, Int.reduceBEq, Int.reduceBNe, Nat.reduceBNe, Int.reduceEq, encB, encF, epoch20, epoch21, epoch22, epoch23, knC2, List.length_singleton, viewO]))
    | with_reducible intro b)
  all_goals first
  | ((refine ⟨_, _, ?_, ⟨rfl, rfl⟩, ?_⟩; (first | exact le.rfl_ | exact le.gs rfl | refine le.of_eq ?_ | refine le.gs ?_); rotate_left; (repeat (first | (with_reducible exact SubP.refl) | (with_reducible exact SubP.nil) | (with_reducible refine SubP.pick ?_) | (with_reducible refine Out.here ?_) | (with_reducible refine Out.next ?_) | (with_reducible refine SubP.drop ?_)))))
  | (exfalso; simp at hb; omega)
  | (refine ⟨(i + 1, t, a), ?_, ?_, ?_, ?_⟩; (((try simp only); omega)); (((try simp only); omega)); (simp [Sub, get] <;> (fail)); (try dsimp only); (repeat (first | (with_reducible exact SubP.refl) | (with_reducible exact SubP.nil) | (with_reducible refine SubP.pick ?_) | (with_reducible refine Out.here ?_) | (with_reducible refine Out.next ?_) | (with_reducible refine SubP.drop ?_))))
  | (refine ⟨(i + 1, (l.getD i default).tmod 6 - 1, i), ?_, ?_, ?_, ?_⟩; (((try simp only); omega)); (((try simp only); omega)); (simp [Sub, get] <;> (fail)); (try dsimp only); (repeat (first | (with_reducible exact SubP.refl) | (with_reducible exact SubP.nil) | (with_reducible refine SubP.pick ?_) | (with_reducible refine Out.here ?_) | (with_reducible refine Out.next ?_) | (with_reducible refine SubP.drop ?_))))
end Go.Proofs.Ytdplieimkphneaa
