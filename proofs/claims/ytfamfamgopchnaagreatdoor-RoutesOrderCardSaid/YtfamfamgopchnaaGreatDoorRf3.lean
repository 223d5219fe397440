/- Levels of a filter; which texts are filters. -/
import Derived.Test.YtfamfamgopchnaaGreatDoorRf2
import Derived.Test.YtfamfamgopchnaaGreatDoorEu
import Derived.KernelRfl
namespace Go.Proofs.YtfamfamgopchnaaGreatDoor
open Go.RowKit
set_option linter.unusedSimpArgs false
set_option linter.unusedVariables false
set_option linter.unusedSectionVars false
set_option maxHeartbeats 4000000
set_option maxRecDepth 100000
attribute [local irreducible] DW SeqD DV DOp DC DVX


def levStep (acc : List Str) (c : UInt8) : List Str := if (c.toNat : Int) = 47 then acc ++ [[]] else acc.set (acc.length - 1) (acc.getD (acc.length - 1) [] ++ [c])
def lev (t : Str) (k : Nat) : List Str := (t.take k).foldl levStep [[]]
theorem lev_0 (t : Str) : lev t 0 = [[]] := rfl
theorem take_more0 (l : Str) (k : Nat) (h : k < l.length) : l.take (k + 1) = l.take k ++ [l.getD k 0] := by rw [List.take_add_one]; simp [List.getD_eq_getElem?_getD, h]
theorem lev_more {t : Str} {k : Nat} (h : k < t.length) : lev t (k + 1) = levStep (lev t k) (t.getD k 0) := by rw [lev, take_more0 t k h, List.foldl_append]; rfl
theorem levStep_len (acc : List Str) (c : UInt8) : acc.length ≤ (levStep acc c).length ∧ (levStep acc c).length ≤ acc.length + 1 := by
  unfold levStep; split <;> simp
theorem toNat_pred {n : Nat} (h : 1 ≤ n) : ((n : Int) - 1).toNat = n - 1 := by omega
theorem drop_take1 {t : Str} {k : Nat} (h : k < t.length) : List.drop k (List.take ((k : Int) + 1).toNat t) = [t.getD k 0] := by
  rw [show ((k : Int) + 1).toNat = k + 1 from by omega, take_more0 t k h, List.drop_append, List.drop_of_length_le (by rw [List.length_take]; omega), List.nil_append, List.length_take, Nat.min_eq_left (by omega), Nat.sub_self]; rfl
theorem lev_bound {t : Str} {k : Nat} (h : k ≤ t.length) : ∀ j, ((lev t k).getD j []).length ≤ k := by
  induction k with
  | zero => intro j; rw [lev_0]; cases j <;> simp
  | succ k ih =>
    intro j
    rw [lev_more (by omega), levStep]
    have h1 := ih (by omega)
    split
    · by_cases hj : j < (lev t k).length
      · have := h1 j
        rw [List.getD_eq_getElem?_getD, List.getElem?_append_left hj, ← List.getD_eq_getElem?_getD]; omega
      · rw [List.getD_eq_getElem?_getD, List.getElem?_append_right (by omega)]
        cases hq : j - (lev t k).length <;> simp
    · by_cases hj : j = (lev t k).length - 1
      · subst hj
        have := h1 ((lev t k).length - 1)
        by_cases hl : (lev t k).length - 1 < (lev t k).length
        · simp only [List.getD_eq_getElem?_getD, List.getElem?_set_self hl, Option.getD_some, List.length_append, List.length_singleton] at this ⊢; omega
        · rw [List.getD_eq_getElem?_getD, List.getElem?_eq_none (by simp; omega)]; simp
      · have := h1 j
        simp only [List.getD_eq_getElem?_getD, List.getElem?_set_ne (Ne.symm hj)] at this ⊢; omega
theorem lev_len {t : Str} {k : Nat} (h : k ≤ t.length) : 1 ≤ (lev t k).length ∧ (lev t k).length ≤ k + 1 := by
  induction k with
  | zero => simp [lev_0]
  | succ k ih => rw [lev_more (by omega)]; have := levStep_len (lev t k) (t.getD k 0); have := ih (by omega); omega
theorem lay_app6 (a b d : List V) (m : Nat) : layV (a ++ b) (a.length + m) d = a ++ layV b m d := by
  unfold layV
  rw [List.take_append, List.take_of_length_le (by omega), List.drop_append, List.drop_of_length_le (by omega), List.nil_append, Nat.add_sub_cancel_left, show a.length + m + d.length - a.length = m + d.length from by omega]
  simp [List.append_assoc]
def strs (l : List Str) : List V := l.map .str
theorem strs_one : strs [[]] = [V.str []] := rfl
theorem strs_len (l : List Str) : (strs l).length = l.length := by simp [strs]
theorem strs_cells (l : List Str) : cells (strs l) = strs l := by
  induction l with
  | nil => rfl
  | cons a l ih => show cells (.str a :: strs l) = .str a :: strs l; rw [cells_cons, ih]; rfl
theorem strs_get (l : List Str) (k : Nat) (h : k < l.length) : (strs l).getD k .any = .str (l.getD k []) := by simp [strs, List.getD_eq_getElem?_getD, h]
theorem strs_set (l : List Str) (k : Nat) (s : Str) (h : k < l.length) : layV (strs l) k [.str s] = strs (l.set k s) := by
  unfold strs
  induction l generalizing k with
  | nil => cases h
  | cons a l ih =>
    cases k with
    | zero => rfl
    | succ k =>
      have := ih k (by simpa using h)
      rw [List.set_cons_succ, List.map_cons, List.map_cons, ← this]
      show layV ([V.str a] ++ _) (k + 1) _ = _
      rw [show k + 1 = ([V.str a] : List V).length + k from by simp; omega, lay_app6]; rfl
theorem strs_snoc (l : List Str) (s : Str) : strs l ++ [V.str s] = strs (l ++ [s]) := by simp [strs]
theorem levStep_1 {acc : List Str} {c : UInt8} (h : (c.toNat : Int) = 47) : levStep acc c = acc ++ [[]] := by rw [levStep, if_pos h]
theorem levStep_2 {acc : List Str} {c : UInt8} (h : ¬ (c.toNat : Int) = 47) : levStep acc c = acc.set (acc.length - 1) (acc.getD (acc.length - 1) [] ++ [c]) := by rw [levStep, if_neg h]
theorem levels_dc (t : Str) (F : Own) : (t.length ≤ 65535) → DC Tryz.prog 97 [.str t] (([] : Own) ++ F) fun d G => d = .sl (strs (lev t t.length)) ∧ G = [] ++ F := by
  intro hA
  have ht := hA
  refine DC.bodyS (n_ := 33) (show Tryz.prog.funcs[97]? = some Tryz.f97 by kernel_rfl) rfl rfl (by rfl) ?_
  simp only [env0, lev_0, strs_one, List.cons_append, List.nil_append]
  repeat' (first
    | ((with_reducible apply DW.frzR 8); (repeat (with_reducible first | refine OnA.here ?_ | refine OnA.next ?_)); refine ⟨(strs_cells _).symm, by decide, (by intro y hy; obtain ⟨z, _, rfl⟩ := List.mem_map.1 hy; rfl), ?_, ?_⟩; (repeat (first | exact CvE.nil | apply CvE.cons (Cv.hit _) | apply CvE.cons (Cv.rfl _))))
    | ((with_reducible refine DW.loopB 0 (X := Nat × Value) (fun x => x.1 ≤ t.length) (fun x => [(0, .str t), (3, .ar x.2 (lev t x.1).length), (4, .int .i64 x.1)]) (fun x => .arr 1 x.2 (strs (lev t x.1)) :: ([] : Own)) (fun x => t.length - x.1) ((0, b)) ?_ ?_ ?_); exact (Nat.zero_le _); (simp [Sub, get, keepL, lev_0] <;> fail); (try simp only [lev_0, strs_one, List.cons_append, List.nil_append]); (repeat (with_reducible first | refine Pull.nil ?_ | refine Pull.cons ?_ | refine Out.here ?_ | refine Out.next ?_)); intro ⟨k, v⟩ hk; (try simp only [lev_0, strs_one, List.cons_append, List.nil_append]); have hll := lev_len hk; simp only at hk hll; have hlb := lev_bound hk)
    | with_reducible first | refine DW.sq ?_ | refine DW.block ?_ | refine DW.skip ?_ | refine DW.exit ?_
    | ((with_reducible refine DW.ret ?_))
    | with_reducible first | refine then_n ?_ | refine then_x ?_ | refine then_r ?_ | refine blk_n ?_ | refine blk_r ?_ | refine blk_x ?_
    | with_reducible refine blk_y (by decide) ?_
    | with_reducible first | refine Next.go ?_ | refine SeqD.nil ?_ | refine DV.nil ?_
    | ((with_reducible refine And.intro ?_ ?_); (first | exact sv | (have hlb1 := hlb ((((lev t k).length : Int) - 1).toNat); simp only [List.length_take]; omega)))
    | with_reducible first | refine DW.ct_ ?_ | refine DW.cf_ ?_
    | (refine DW.cond (by rfl) (fun hb => ?_) (fun hb => ?_) <;> (try simp only [hbs, Int.reduceBEq, Int.reduceBNe, Int.reduceEq] at hb; try (exfalso; omega)))
    | ((first | ((with_reducible refine DW.regK [0, 2, 3, 4, 9, 15] (by kernel_rfl) ?_); refine SeqD.go (own := [5]) _ _ ?_) | ((with_reducible refine DW.drawK (id := 7) [0, 2, 3, 4, 9, 15] [13] [5] (by kernel_rfl) (by kernel_rfl) (by kernel_rfl) ?_); refine DV.go [5] [13] _ _ _ ?_) | ((first | refine Both.imp (fun hb => ?_) (fun hb => ?_) | (with_reducible first | refine FVg_cases (fun hb => ?_) (fun hb => ?_) | refine FDg_cases (fun hb => ?_) (fun hb => ?_)) <;> rw [hb]) <;> (try simp only [hbs, Int.reduceBEq, Int.reduceBNe, Int.reduceEq] at hb; try (exfalso; omega))) | (with_reducible refine ret_r rfl ?_) | ((refine ret_c [.tmp 2] (by rfl) ?_); (try (refine RetK_cell _ _ _ _ _ _ rfl ?_; (repeat (with_reducible first | refine OnB.here ?_ | refine OnB.mid ?_ | refine OnB.next ?_))))) | ((refine RetK_cell _ _ _ _ _ _ rfl ?_); (repeat (with_reducible first | refine OnB.here ?_ | refine OnB.mid ?_ | refine OnB.next ?_))) | (with_reducible refine ret_n rfl ?_) | ((with_reducible first | refine DV.mk rfl ?_ | refine DV.mkg rfl rfl ?_); (first | (refine DVop.loada_ rfl rfl rfl rfl ?_; (repeat (with_reducible first | refine OnA.here ?_ | refine OnA.next ?_))) | (refine DVop.load_ rfl rfl rfl rfl ?_; (repeat (with_reducible first | refine OnB.here ?_ | refine OnB.mid ?_ | refine OnB.next ?_))) | (refine DVop.f_ rfl ?_))) | (first | (refine DOp.lista_ [5] rfl rfl ?_) | (refine DOp.list_ rfl ?_) | (refine DOp.store_ rfl rfl ?_; (repeat (with_reducible first | refine OnB.here ?_ | refine OnB.mid ?_ | refine OnB.next ?_))) | (refine DOp.load_ rfl rfl ?_; (repeat (with_reducible first | refine OnB.here ?_ | refine OnB.mid ?_ | refine OnB.next ?_))) | (refine DOp.loada_ rfl rfl ?_; (repeat (with_reducible first | refine OnA.here ?_ | refine OnA.next ?_))) | (refine DOp.storea_ rfl rfl ?_; (repeat (with_reducible first | refine OnA.here ?_ | refine OnA.next ?_))) | (refine DOp.appa_ rfl rfl rfl ?_; (repeat (with_reducible first | refine OnA.here ?_ | refine OnA.next ?_))) | (refine DOp.appz_ rfl rfl rfl ?_; (repeat (with_reducible first | refine OnT.here ?_ | refine OnT.next ?_)); (fail_if_success (with_reducible refine OnT_id ?_))) | (refine DOp.append0_ rfl rfl rfl ?_))) <;> (simp (maxSteps := 1000000) (disch := omega) only [push_cast, ↓reduceIte, reduceCtorEq, Nat.reduceAdd, Nat.reduceMul, Nat.reduceLT, Nat.reduceLeDiff, Nat.reduceEqDiff, Nat.reduceSub, Int.reduceToNat, Int.reduceLT, Int.reduceLE, Int.reduceAdd, Int.reduceSub, Int.reduceMul, Int.reduceNeg, Nat.reduceBEq, Int.reduceBEq, Int.reduceBNe, Nat.reduceBNe, Int.reduceEq, u8, strs_len, strs_get, strs_set, strs_snoc, lev_0, strs_one]))
    | (with_reducible first | refine SeqD.opF [5] rfl ?_ | refine SeqD.opgF [5] rfl rfl ?_)
    | ((with_reducible first | refine DV.mk rfl ?_ | refine DV.mkg rfl rfl ?_); (refine DVop.mv_ rfl ?_))
    | with_reducible intro b)
  all_goals first
  | (have e := (lev_more (show k < t.length by omega)).trans (levStep_1 hb)
     rw [← e]
     refine ⟨(k + 1, b), ?_, ?_, ?_, ?_⟩; (((try simp only); omega)); (((try simp only); omega)); (simp [Sub, get, e] <;> (fail)); (try dsimp only); (repeat (with_reducible first | exact SubP.refl | exact SubP.nil | refine SubP.pick ?_ | refine Out.here ?_ | refine Out.next ?_ | refine SubP.drop ?_)); done)
  | (have e := (lev_more (show k < t.length by omega)).trans (levStep_2 hb)
     rw [toNat_pred (show 1 ≤ (lev t k).length by omega), drop_take1 (show k < t.length by omega), ← e]
     refine ⟨(k + 1, v), ?_, ?_, ?_, ?_⟩; (((try simp only); omega)); (((try simp only); omega)); (simp [Sub, get, e] <;> (fail)); (try dsimp only); (repeat (with_reducible first | exact SubP.refl | exact SubP.nil | refine SubP.pick ?_ | refine Out.here ?_ | refine Out.next ?_ | refine SubP.drop ?_)); done)
  | (have hkl : k = t.length := by omega
     subst hkl
     (refine ⟨_, _, ?_, ⟨rfl, rfl⟩, ?_⟩; (first | exact le.rfl_ | exact le.gs rfl | refine le.of_eq ?_ | refine le.gs ?_); rotate_left; (repeat (with_reducible first | exact SubP.refl | exact SubP.nil | refine SubP.pick ?_ | refine Out.here ?_ | refine Out.next ?_ | refine SubP.drop ?_))); done)

def lvlOk (L : List Str) (i : Nat) : Bool := !(hasC (L.getD i []) 43 && L.getD i [] != [43] || hasC (L.getD i []) 35 && (L.getD i [] != [35] || decide (i + 1 < L.length)))
def filterB (t : Str) : Bool := textB t && allK (lvlOk (lev t t.length)) (lev t t.length).length
theorem textB_len {t : Str} (h : textB t = true) : 1 ≤ t.length ∧ t.length ≤ 65535 := by
  unfold textB at h; simp only [Bool.and_eq_true, decide_eq_true_eq] at h; omega
def sNe (a b : Str) : Bool := a != b
theorem sNe_fold (a b : Str) : (!(a == b)) = sNe a b := rfl
theorem lvl_no1 {L : List Str} {k : Nat} (h1 : hasC (L.getD k []) 43 = true) (h2 : sNe (L.getD k []) [43] = true) : lvlOk L k = false := by
  unfold sNe at h2; unfold lvlOk; rw [h1, h2]; rfl
theorem lvl_no2 {L : List Str} {k : Nat} (h1 : hasC (L.getD k []) 35 = true) (h2 : sNe (L.getD k []) [35] = true ∨ k + 1 < L.length) : lvlOk L k = false := by
  unfold lvlOk
  rcases h2 with h2 | h2
  · unfold sNe at h2; rw [h1, h2]; simp
  · rw [h1, decide_eq_true h2]; simp
theorem lvl_ok {L : List Str} {k : Nat} (h1 : hasC (L.getD k []) 43 = false ∨ sNe (L.getD k []) [43] = false) (h2 : hasC (L.getD k []) 35 = false ∨ (sNe (L.getD k []) [35] = false ∧ L.length ≤ k + 1)) : lvlOk L k = true := by
  unfold lvlOk
  have e1 : (hasC (L.getD k []) 43 && L.getD k [] != [43]) = false := by
    rcases h1 with h | h
    · rw [h]; rfl
    · unfold sNe at h; rw [h]; simp
  have e2 : (hasC (L.getD k []) 35 && (L.getD k [] != [35] || decide (k + 1 < L.length))) = false := by
    rcases h2 with h | ⟨h, h'⟩
    · rw [h]; rfl
    · unfold sNe at h; rw [h, decide_eq_false (by omega)]; simp
  rw [e1, e2]; rfl
theorem filterB_no1 {t : Str} (h : textB t = false) : filterB t = false := by rw [filterB, h]; rfl
theorem filterB_no2 {t : Str} {k : Nat} (hk : k < (lev t t.length).length) (h : lvlOk (lev t t.length) k = false) : filterB t = false := by rw [filterB, allK_not h hk]; simp
theorem filterB_ok {t : Str} (h : textB t = true) (h2 : allK (lvlOk (lev t t.length)) (lev t t.length).length = true) : filterB t = true := by rw [filterB, h, h2]; rfl
attribute [local irreducible] textB hasC lev lvlOk sNe
theorem rfilter_dc (t : Str) (F : Own) : (t.length ≤ 1000000000) → DC Tryz.prog 61 [.str t] (([] : Own) ++ F) fun d G => d = .bool (filterB t) ∧ G = [] ++ F := by
  intro hA
  have ht := hA
  refine DC.bodyS (n_ := 49) (show Tryz.prog.funcs[61]? = some Tryz.f61 by kernel_rfl) rfl rfl (by rfl) ?_
  simp only [env0, List.cons_append, List.nil_append]
  repeat' (first
    | (have htx := textB_len ‹textB t = true›; ((with_reducible refine DW.loopB 0 (X := Nat) (fun x => x ≤ (lev t t.length).length ∧ allK (lvlOk (lev t t.length)) x = true) (fun x => [(3, .sl (strs (lev t t.length))), (4, .int .i64 x)]) (fun x => ([] : Own)) (fun x => (lev t t.length).length - x) (0) ?_ ?_ ?_); exact (⟨Nat.zero_le _, rfl⟩); (simp [Sub, get, keepL] <;> fail); (try simp only [List.cons_append, List.nil_append]); (repeat (with_reducible first | refine Pull.nil ?_ | refine Pull.cons ?_ | refine Out.here ?_ | refine Out.next ?_)); intro k ⟨hk, ha⟩; (try simp only [List.cons_append, List.nil_append]); have hlb := lev_bound (t := t) (Nat.le_refl _); have hll := lev_len (t := t) (Nat.le_refl _)))
    | with_reducible first | refine DW.sq ?_ | refine DW.block ?_ | refine DW.skip ?_ | refine DW.exit ?_
    | ((with_reducible refine DW.ret ?_))
    | with_reducible first | refine then_n ?_ | refine then_x ?_ | refine then_r ?_ | refine blk_n ?_ | refine blk_r ?_ | refine blk_x ?_
    | with_reducible refine blk_y (by decide) ?_
    | with_reducible first | refine Next.go ?_ | refine SeqD.nil ?_ | refine DV.nil ?_
    | ((with_reducible refine And.intro ?_ ?_); (first | exact sv | (have hq := textB_len ‹textB t = true›; omega) | (have hq := hlb k; omega)))
    | with_reducible first | refine DW.ct_ ?_ | refine DW.cf_ ?_
    | (refine DW.cond (by rfl) (fun hb => ?_) (fun hb => ?_) <;> (try simp only [hbs, Int.reduceBEq, Int.reduceBNe, Int.reduceEq] at hb; try (exfalso; omega)))
    | ((first | ((with_reducible refine DW.regK [0, 2, 3, 4, 7, 13, 48] (by kernel_rfl) ?_); refine SeqD.go (own := []) _ _ ?_) | ((first | refine Both.imp (fun hb => ?_) (fun hb => ?_) | (with_reducible first | refine FVg_cases (fun hb => ?_) (fun hb => ?_) | refine FDg_cases (fun hb => ?_) (fun hb => ?_)) <;> rw [hb]) <;> (try simp only [hbs, Int.reduceBEq, Int.reduceBNe, Int.reduceEq] at hb; try (exfalso; omega))) | (with_reducible refine ret_r rfl ?_) | ((refine ret_c [.tmp 2] (by rfl) ?_); (try (refine RetK_cell _ _ _ _ _ _ rfl ?_; (repeat (with_reducible first | refine OnB.here ?_ | refine OnB.mid ?_ | refine OnB.next ?_))))) | ((refine RetK_cell _ _ _ _ _ _ rfl ?_); (repeat (with_reducible first | refine OnB.here ?_ | refine OnB.mid ?_ | refine OnB.next ?_))) | (with_reducible refine ret_n rfl ?_) | (first | ((first | apply DOp.callq_ rfl rfl (h := rtext6_dc _ _) | apply DOp.callq_ rfl rfl (h := hasc_dc _ _ _) | apply DOp.callq_ rfl rfl (h := levels_dc _ _)); (repeat (first | exact Les.nil | refine Les.cons le.rfl_ ?_ | refine Les.cons (le.gs rfl) ?_ | refine Les.cons (le.gs List.map_nil.symm) ?_ | refine Les.cons (le.agg ?_) ?_)); (repeat (with_reducible first | exact Pulled.nil | apply Pulled.cons | exact Took.here | apply Took.next)); refine And.intro ?_ ?_; (first | exact sv | (have hq := textB_len ‹textB t = true›; omega) | (have hq := hlb k; omega)); rintro d rfl) | (refine DOp.load_ rfl rfl ?_; (repeat (with_reducible first | refine OnB.here ?_ | refine OnB.mid ?_ | refine OnB.next ?_))) | (refine DOp.loada_ rfl rfl ?_; (repeat (with_reducible first | refine OnA.here ?_ | refine OnA.next ?_))))) <;> (simp (maxSteps := 1000000) (disch := omega) only [push_cast, ↓reduceIte, reduceCtorEq, Nat.reduceAdd, Nat.reduceMul, Nat.reduceLT, Nat.reduceLeDiff, Nat.reduceEqDiff, Nat.reduceSub, Int.reduceToNat, Int.reduceLT, Int.reduceLE, Int.reduceAdd, Int.reduceSub, Int.reduceMul, Int.reduceNeg, Nat.reduceBEq, Int.reduceBEq, Int.reduceBNe, Nat.reduceBNe, Int.reduceEq, strs_len, strs_get, sNe_fold]))
    | (with_reducible first | refine SeqD.opF [] rfl ?_ | refine SeqD.opgF [] rfl rfl ?_)
    | with_reducible intro b)
  all_goals first
  | (rw [filterB_no1 (by assumption)]; (refine ⟨_, _, ?_, ⟨rfl, rfl⟩, ?_⟩; (first | exact le.rfl_ | exact le.gs rfl | refine le.of_eq ?_ | refine le.gs ?_); rotate_left; (repeat (with_reducible first | exact SubP.refl | exact SubP.nil | refine SubP.pick ?_ | refine Out.here ?_ | refine Out.next ?_ | refine SubP.drop ?_))); done)
  | (have e : filterB t = false := filterB_no2 (k := k) (by omega) (lvl_no1 (by assumption) (by assumption))
     rw [e]; (refine ⟨_, _, ?_, ⟨rfl, rfl⟩, ?_⟩; (first | exact le.rfl_ | exact le.gs rfl | refine le.of_eq ?_ | refine le.gs ?_); rotate_left; (repeat (with_reducible first | exact SubP.refl | exact SubP.nil | refine SubP.pick ?_ | refine Out.here ?_ | refine Out.next ?_ | refine SubP.drop ?_))); done)
  | (have e : filterB t = false := filterB_no2 (k := k) (by omega) (lvl_no2 (by assumption) (by first | assumption | (left; assumption) | (right; assumption) | (right; omega) | (right; exact ⟨by assumption, by omega⟩)))
     rw [e]; (refine ⟨_, _, ?_, ⟨rfl, rfl⟩, ?_⟩; (first | exact le.rfl_ | exact le.gs rfl | refine le.of_eq ?_ | refine le.gs ?_); rotate_left; (repeat (with_reducible first | exact SubP.refl | exact SubP.nil | refine SubP.pick ?_ | refine Out.here ?_ | refine Out.next ?_ | refine SubP.drop ?_))); done)
  | (have e : lvlOk (lev t t.length) k = true := lvl_ok (by first | assumption | (left; assumption) | (right; assumption) | (right; omega) | (right; exact ⟨by assumption, by omega⟩)) (by first | assumption | (left; assumption) | (right; assumption) | (right; omega) | (right; exact ⟨by assumption, by omega⟩))
     refine ⟨k + 1, ⟨by omega, allK_next ha e⟩, by omega, by simp [Sub, get], ?_⟩; (repeat (with_reducible first | exact SubP.refl | exact SubP.nil | refine SubP.pick ?_ | refine Out.here ?_ | refine Out.next ?_ | refine SubP.drop ?_)); done)
  | (have hkl : k = (lev t t.length).length := by omega
     rw [hkl] at ha
     rw [filterB_ok (by assumption) ha]; (refine ⟨_, _, ?_, ⟨rfl, rfl⟩, ?_⟩; (first | exact le.rfl_ | exact le.gs rfl | refine le.of_eq ?_ | refine le.gs ?_); rotate_left; (repeat (with_reducible first | exact SubP.refl | exact SubP.nil | refine SubP.pick ?_ | refine Out.here ?_ | refine Out.next ?_ | refine SubP.drop ?_))); done)
end Go.Proofs.YtfamfamgopchnaaGreatDoor
