/- What the program finds among dots. -/
import Derived.Test.YtfamfamgopchnaaGreatDoorPt1
import Derived.KernelRfl
namespace Go.Proofs.YtfamfamgopchnaaGreatDoor
open Go.RowKit
set_option linter.unusedSimpArgs false
set_option linter.unusedVariables false
set_option linter.unusedSectionVars false
set_option maxHeartbeats 4000000
set_option maxRecDepth 100000


theorem lives_nlt (a b : TDot) : (0 ≤ livesI a b) ↔ ahead a b = false := by
  rw [← Bool.not_eq_true, ← lives_lt]; omega
theorem dotOk_eq (l : List TDot) (k : Nat) : dotOk l k = (oneB (l.getD k default) && (decide (k = 0) || ahead (l.getD (k - 1) default) (l.getD k default))) := rfl
theorem dotOk_no1 {l : List TDot} {k : Nat} (h : oneB (l.getD k default) = false) : dotOk l k = false := by rw [dotOk_eq, h]; rfl
theorem dotOk_no2 {l : List TDot} {k : Nat} (hk : 0 < (k : Int)) (h : 0 ≤ livesI (l.getD ((k : Int) - 1).toNat default) (l.getD k default)) : dotOk l k = false := by
  rw [show ((k : Int) - 1).toNat = k - 1 by omega, lives_nlt] at h
  rw [dotOk_eq, h, show decide (k = 0) = false by simp; omega]; simp
theorem dotOk_yes0 {l : List TDot} {k : Nat} (h1 : oneB (l.getD k default) = true) (hk : (k : Int) ≤ 0) : dotOk l k = true := by rw [dotOk_eq, h1, show decide (k = 0) = true by simp; omega]; rfl
theorem dotOk_yes {l : List TDot} {k : Nat} (h1 : oneB (l.getD k default) = true) (h : livesI (l.getD ((k : Int) - 1).toNat default) (l.getD k default) < 0) (hk : 0 < (k : Int)) : dotOk l k = true := by
  rw [show ((k : Int) - 1).toNat = k - 1 by omega, lives_lt] at h
  rw [dotOk_eq, h1, h]; simp
def foundB (l : List TDot) (x : TDot) : Bool := decide (placeD l x < l.length) && (livesI (l.getD (placeD l x) default) x == 0)
theorem bs_end {lt : Nat → Bool} {n i : Nat} (hm : ∀ a b, a ≤ b → b < n → lt b = true → lt a = true) (hi : i ≤ n) (h1 : i = 0 ∨ lt (i - 1) = true) (h2 : i = n ∨ lt i = false) : firstK (fun k => !lt k) n 0 = i := by
  have hlow : ∀ q, 0 ≤ q → q < i → (!lt q) = false := fun q _ hq => by
    rcases h1 with h1 | h1
    · omega
    · rw [hm q (i - 1) (by omega) (by omega) h1]; rfl
  rcases Nat.lt_or_ge i n with h | h
  · rcases h2 with h2 | h2
    · omega
    · exact firstK_at _ n 0 i (Nat.zero_le _) (by omega) hlow (by rw [h2]; rfl)
  · have : i = n := by omega
    subst this
    have := firstK_no (fun k => !lt k) i 0 (fun q h3 h4 => hlow q h3 (by omega))
    omega
theorem ahead_mono {l : List TDot} (h : rightB l = true) (x : TDot) : ∀ a b, a ≤ b → b < l.length → ahead (l.getD b default) x = true → ahead (l.getD a default) x = true := fun a b hab hb ha => by
  rcases Nat.eq_or_lt_of_le hab with rfl | hlt
  · exact ha
  · exact ahead_trans _ _ _ (pw_at (right_iff.1 h).1 hlt hb) ha
theorem bsD {l : List TDot} (h : rightB l = true) {x : TDot} {i : Nat} (hi : i ≤ l.length) (h1 : i = 0 ∨ ahead (l.getD (i - 1) default) x = true) (h2 : i = l.length ∨ ahead (l.getD i default) x = false) : placeD l x = i := bs_end (ahead_mono h x) hi h1 h2
theorem half_eq {i j : Nat} (h : (i : Int) + (j : Int) ≤ 4000000000) : IntKind.i64.wrap (((i : Int) + (j : Int)).fdiv (2 ^ min 1 IntKind.u64.bits)) = (((i + j) / 2 : Nat) : Int) := by
  have e : (2 : Int) ^ min 1 IntKind.u64.bits = 2 := by decide
  rw [e, Int.fdiv_eq_ediv_of_nonneg _ (by decide), wrap_i64] <;> omega
theorem half {i j : Nat} (h : i < j) : i ≤ (i + j) / 2 ∧ (i + j) / 2 < j := by omega
theorem top_bs {l : List TDot} (h : rightB l = true) (n e m : Int) : topM l n e = if foundB l ⟨n, e, m⟩ = true then (l.getD (placeD l ⟨n, e, m⟩) default).n else 0 := by
  obtain ⟨h1, h2, h3, h4⟩ := firstK_le (fun i => !ahead (l.getD i default) ⟨n, e, m⟩) l.length 0
  obtain ⟨p, hp⟩ : ∃ p, p = placeD l ⟨n, e, m⟩ := ⟨_, rfl⟩
  have hp' : firstK (fun i => !ahead (l.getD i default) ⟨n, e, m⟩) l.length 0 = p := hp.symm
  rw [hp'] at h1 h2 h3 h4
  unfold foundB
  rw [← hp]
  split
  · rename_i hc
    simp only [Bool.and_eq_true, decide_eq_true_eq, beq_iff_eq] at hc
    have hz := (lives_z _ _).1 hc.2
    have := top_mem h (getD_mem hc.1)
    simp only at hz
    rw [← hz.1, ← hz.2]; exact this
  · rename_i hc
    refine top_none h fun d hd hk => ?_
    obtain ⟨q, hq, rfl⟩ := mem_getD hd
    have hqa : ahead (l.getD q default) ⟨n, e, m⟩ = false := by
      rw [ahead_not]; simp only; omega
    have hpq : p ≤ q := by
      rcases Nat.lt_or_ge q p with h5 | h5
      · have := h3 q (Nat.zero_le _) h5
        rw [hqa] at this; cases this
      · exact h5
    have hpa : ahead (l.getD p default) ⟨n, e, m⟩ = false := by simpa using h4 (by omega)
    rcases Nat.eq_or_lt_of_le hpq with rfl | hlt
    · refine hc ?_
      simp only [Bool.and_eq_true, decide_eq_true_eq, beq_iff_eq]
      exact ⟨hq, (lives_z _ _).2 hk⟩
    · have h6 := ahead_iff.1 (pw_at (right_iff.1 h).1 hlt hq)
      rw [ahead_not] at hpa
      simp only at hpa
      omega
attribute [local irreducible] DW SeqD DV DOp DC DVX
theorem pright_dc (l : List TDot) (F : Own) : (l.length ≤ 1000000000) → DC Tryz.prog 106 [.sl (l.map encDot)] (([] : Own) ++ F) fun d G => d = .bool (rightB l) ∧ G = [] ++ F := by
  intro hA
  have hl := hA
  refine DC.bodyS (n_ := 30) (show Tryz.prog.funcs[106]? = some Tryz.f106 by kernel_rfl) rfl rfl (by rfl) ?_
  simp only [env0, List.cons_append, List.nil_append]
  repeat' (first
    | ((with_reducible refine DW.loopB 0 (X := Nat) (fun x => x ≤ l.length ∧ allK (dotOk l) x = true) (fun x => [(0, .sl (l.map encDot)), (5, .sl (l.map encDot)), (6, .int .i64 l.length), (7, .int .i64 x)]) (fun x => ([] : Own)) (fun x => l.length - x) (0) ?_ ?_ ?_); exact (⟨Nat.zero_le _, rfl⟩); (simp [Sub, get, keepL] <;> fail); (try simp only [List.cons_append, List.nil_append]); (repeat (with_reducible first | refine Pull.nil ?_ | refine Pull.cons ?_ | refine Out.here ?_ | refine Out.next ?_)); intro k ⟨hk, ha⟩; (try simp only [List.cons_append, List.nil_append]))
    | with_reducible first | refine DW.sq ?_ | refine DW.block ?_ | refine DW.skip ?_ | refine DW.exit ?_
    | ((with_reducible refine DW.ret ?_))
    | with_reducible first | refine then_n ?_ | refine then_x ?_ | refine then_r ?_ | refine blk_n ?_ | refine blk_r ?_ | refine blk_x ?_
    | with_reducible refine blk_y (by decide) ?_
    | with_reducible first | refine Next.go ?_ | refine SeqD.nil ?_ | refine DV.nil ?_
    | ((with_reducible refine And.intro ?_ ?_); (exact sv))
    | with_reducible first | refine DW.ct_ ?_ | refine DW.cf_ ?_
    | (refine DW.cond (by rfl) (fun hb => ?_) (fun hb => ?_) <;> (try simp only [hbs, Int.reduceBEq, Int.reduceBNe, Int.reduceEq] at hb; try (exfalso; omega)))
    | ((first | ((with_reducible refine DW.regK [0, 2, 3, 4, 5, 6, 7, 8, 28] (by kernel_rfl) ?_); refine SeqD.go (own := []) _ _ ?_) | ((with_reducible refine DW.drawK (id := 4) [0, 2, 3, 4, 5, 6, 7, 8, 28] [] [0, 1, 11, 12, 13] (by kernel_rfl) (by kernel_rfl) (by kernel_rfl) ?_); refine DV.go [0, 1, 11, 12, 13] [] _ _ _ ?_) | ((first | refine Both.imp (fun hb => ?_) (fun hb => ?_) | (with_reducible first | refine FVg_cases (fun hb => ?_) (fun hb => ?_) | refine FDg_cases (fun hb => ?_) (fun hb => ?_)) <;> rw [hb]) <;> (try simp only [hbs, Int.reduceBEq, Int.reduceBNe, Int.reduceEq] at hb; try (exfalso; omega))) | (with_reducible refine ret_r rfl ?_) | ((refine ret_c [.tmp 2] (by rfl) ?_); (try (refine RetK_cell _ _ _ _ _ _ rfl ?_; (repeat (with_reducible first | refine OnB.here ?_ | refine OnB.mid ?_ | refine OnB.next ?_))))) | ((refine RetK_cell _ _ _ _ _ _ rfl ?_); (repeat (with_reducible first | refine OnB.here ?_ | refine OnB.mid ?_ | refine OnB.next ?_))) | (with_reducible refine ret_n rfl ?_) | ((with_reducible first | refine DV.mk rfl ?_ | refine DV.mkg rfl rfl ?_); (first | ((first | apply DVop.callq_ rfl rfl rfl rfl (h1 := may_dc _ _ _ _) | apply DVop.callq_ rfl rfl rfl rfl (h1 := lives_dc _ _ _ _ _ _ _)); (repeat (first | exact Les.nil | refine Les.cons le.rfl_ ?_ | refine Les.cons (le.gs rfl) ?_ | refine Les.cons (le.gs List.map_nil.symm) ?_ | refine Les.cons (le.agg ?_) ?_)); (repeat (with_reducible first | exact Pulled.nil | apply Pulled.cons | exact Took.here | apply Took.next)); refine And.intro ?_ ?_; (exact sv)) | (refine DVop.loada_ rfl rfl rfl rfl ?_; (repeat (with_reducible first | refine OnA.here ?_ | refine OnA.next ?_))) | (refine DVop.load_ rfl rfl rfl rfl ?_; (repeat (with_reducible first | refine OnB.here ?_ | refine OnB.mid ?_ | refine OnB.next ?_))) | (refine DVop.f_ rfl ?_))) | (first | ((first | apply DOp.callq_ rfl rfl (h := may_dc _ _ _ _) | apply DOp.callq_ rfl rfl (h := lives_dc _ _ _ _ _ _ _)); (repeat (first | exact Les.nil | refine Les.cons le.rfl_ ?_ | refine Les.cons (le.gs rfl) ?_ | refine Les.cons (le.gs List.map_nil.symm) ?_ | refine Les.cons (le.agg ?_) ?_)); (repeat (with_reducible first | exact Pulled.nil | apply Pulled.cons | exact Took.here | apply Took.next)); refine And.intro ?_ ?_; (exact sv); rintro d rfl) | (refine DOp.alloc_ rfl ?_) | (refine DOp.store_ rfl rfl ?_; (repeat (with_reducible first | refine OnB.here ?_ | refine OnB.mid ?_ | refine OnB.next ?_))) | (refine DOp.load_ rfl rfl ?_; (repeat (with_reducible first | refine OnB.here ?_ | refine OnB.mid ?_ | refine OnB.next ?_))) | (refine DOp.loada_ rfl rfl ?_; (repeat (with_reducible first | refine OnA.here ?_ | refine OnA.next ?_))) | (refine DOp.storea_ rfl rfl ?_; (repeat (with_reducible first | refine OnA.here ?_ | refine OnA.next ?_))))) <;> (simp (maxSteps := 1000000) (disch := omega) only [push_cast, ↓reduceIte, reduceCtorEq, Nat.reduceAdd, Nat.reduceMul, Nat.reduceLT, Nat.reduceLeDiff, Nat.reduceEqDiff, Nat.reduceSub, Int.reduceToNat, Int.reduceLT, Int.reduceLE, Int.reduceAdd, Int.reduceSub, Int.reduceMul, Int.reduceNeg, Nat.reduceBEq, Int.reduceBEq, Int.reduceBNe, Nat.reduceBNe, Int.reduceEq, encDot, dot_eta]))
    | (with_reducible first | refine SeqD.opF [] rfl ?_ | refine SeqD.opgF [] rfl rfl ?_)
    | ((with_reducible first | refine DV.mk rfl ?_ | refine DV.mkg rfl rfl ?_); (refine DVop.mv_ rfl ?_))
    | with_reducible intro b)
  all_goals first
  | (have hk0 : k = l.length := by omega
     subst hk0
     rw [show rightB l = true from ha]; (refine ⟨_, _, ?_, ⟨rfl, rfl⟩, ?_⟩; (first | exact le.rfl_ | exact le.gs rfl | refine le.of_eq ?_ | refine le.gs ?_); rotate_left; (repeat (with_reducible first | exact SubP.refl | exact SubP.nil | refine SubP.pick ?_ | refine Out.here ?_ | refine Out.next ?_ | refine SubP.drop ?_))); done)
  | (rw [show rightB l = false from allK_not (dotOk_no1 (by assumption)) (by omega)]; (refine ⟨_, _, ?_, ⟨rfl, rfl⟩, ?_⟩; (first | exact le.rfl_ | exact le.gs rfl | refine le.of_eq ?_ | refine le.gs ?_); rotate_left; (repeat (with_reducible first | exact SubP.refl | exact SubP.nil | refine SubP.pick ?_ | refine Out.here ?_ | refine Out.next ?_ | refine SubP.drop ?_))); done)
  | (rw [show rightB l = false from allK_not (dotOk_no2 (by assumption) (by assumption)) (by omega)]; (refine ⟨_, _, ?_, ⟨rfl, rfl⟩, ?_⟩; (first | exact le.rfl_ | exact le.gs rfl | refine le.of_eq ?_ | refine le.gs ?_); rotate_left; (repeat (with_reducible first | exact SubP.refl | exact SubP.nil | refine SubP.pick ?_ | refine Out.here ?_ | refine Out.next ?_ | refine SubP.drop ?_))); done)
  | (refine ⟨k + 1, ⟨by omega, allK_next ha (dotOk_yes (by assumption) (by assumption) (by assumption))⟩, by omega, by simp [Sub, get], ?_⟩; (repeat (with_reducible first | exact SubP.refl | exact SubP.nil | refine SubP.pick ?_ | refine Out.here ?_ | refine Out.next ?_ | refine SubP.drop ?_)); done)
  | (refine ⟨k + 1, ⟨by omega, allK_next ha (dotOk_yes0 (by assumption) (by assumption))⟩, by omega, by simp [Sub, get], ?_⟩; (repeat (with_reducible first | exact SubP.refl | exact SubP.nil | refine SubP.pick ?_ | refine Out.here ?_ | refine Out.next ?_ | refine SubP.drop ?_)); done)
theorem bsd_dc (l : List TDot) (x1 x2 x3 : Int) (F : Own) : (rightB l = true ∧ l.length ≤ 1000000000) → DC Tryz.prog 204 [.sl (l.map encDot), .agg [.int .i64 x1, .int .i64 x2, .int .i64 x3], .fn (.func 155) [] []] (([] : Own) ++ F) fun d G => d = .tup [.int .i64 (placeD l ⟨x1, x2, x3⟩), .bool (foundB l ⟨x1, x2, x3⟩)] ∧ G = [] ++ F := by
  intro hA
  obtain ⟨hr, hl⟩ := hA
  refine DC.bodyS (n_ := 49) (show Tryz.prog.funcs[204]? = some Tryz.f204 by kernel_rfl) rfl rfl (by rfl) ?_
  simp only [env0, List.cons_append, List.nil_append]
  repeat' (first
    | ((with_reducible refine DW.loopB 0 (X := Nat × Nat) (fun x => x.1 ≤ x.2 ∧ x.2 ≤ l.length ∧ (x.1 = 0 ∨ ahead (l.getD (x.1 - 1) default) ⟨x1, x2, x3⟩ = true) ∧ (x.2 = l.length ∨ ahead (l.getD x.2 default) ⟨x1, x2, x3⟩ = false)) (fun x => [(0, .sl (l.map encDot)), (2, .fn (.func 155) [] []), (4, .sp [.int .i64 x1, .int .i64 x2, .int .i64 x3]), (8, .int .i64 l.length), (9, .int .i64 x.1), (10, .int .i64 x.2)]) (fun x => ([] : Own)) (fun x => x.2 - x.1) ((0, l.length)) ?_ ?_ ?_); exact (⟨Nat.zero_le _, Nat.le_refl _, .inl rfl, .inl rfl⟩); (simp [Sub, get, keepL] <;> fail); (try simp only [List.cons_append, List.nil_append]); (repeat (with_reducible first | refine Pull.nil ?_ | refine Pull.cons ?_ | refine Out.here ?_ | refine Out.next ?_)); intro ⟨i, j⟩ ⟨hij, hj, h1, h2⟩; (try simp only [List.cons_append, List.nil_append]); simp only at hij hj h1 h2)
    | with_reducible first | refine DW.sq ?_ | refine DW.block ?_ | refine DW.skip ?_ | refine DW.exit ?_
    | ((with_reducible refine DW.ret ?_))
    | with_reducible first | refine then_n ?_ | refine then_x ?_ | refine then_r ?_ | refine blk_n ?_ | refine blk_r ?_ | refine blk_x ?_
    | with_reducible refine blk_y (by decide) ?_
    | with_reducible first | refine Next.go ?_ | refine SeqD.nil ?_ | refine DV.nil ?_
    | ((with_reducible refine And.intro ?_ ?_); (exact sv))
    | with_reducible first | refine DW.ct_ ?_ | refine DW.cf_ ?_
    | (refine DW.cond (by rfl) (fun hb => ?_) (fun hb => ?_) <;> (try simp only [hbs, Int.reduceBEq, Int.reduceBNe, Int.reduceEq] at hb; try (exfalso; omega)))
    | ((first | ((with_reducible refine DW.regK [0, 1, 2, 4, 6, 7, 8, 9, 10, 11, 17, 31] (by kernel_rfl) ?_); refine SeqD.go (own := []) _ _ ?_) | ((with_reducible refine DW.drawK (id := 5) [0, 1, 2, 4, 6, 7, 8, 9, 10, 11, 17, 31] [] [4, 5, 6] (by kernel_rfl) (by kernel_rfl) (by kernel_rfl) ?_); refine DV.go [4, 5, 6] [] _ _ _ ?_) | ((with_reducible refine DW.drawK (id := 8) [0, 1, 2, 4, 6, 7, 8, 9, 10, 11, 17, 31] [] [9, 10, 11] (by kernel_rfl) (by kernel_rfl) (by kernel_rfl) ?_); refine DV.go [9, 10, 11] [] _ _ _ ?_) | ((first | refine Both.imp (fun hb => ?_) (fun hb => ?_) | (with_reducible first | refine FVg_cases (fun hb => ?_) (fun hb => ?_) | refine FDg_cases (fun hb => ?_) (fun hb => ?_)) <;> rw [hb]) <;> (try simp only [hbs, Int.reduceBEq, Int.reduceBNe, Int.reduceEq] at hb; try (exfalso; omega))) | (with_reducible refine ret_r rfl ?_) | ((refine ret_c [.tmp 6, .tmp 7] (by rfl) ?_); (try (refine RetK_cell _ _ _ _ _ _ rfl ?_; (repeat (with_reducible first | refine OnB.here ?_ | refine OnB.mid ?_ | refine OnB.next ?_))))) | ((refine RetK_cell _ _ _ _ _ _ rfl ?_); (repeat (with_reducible first | refine OnB.here ?_ | refine OnB.mid ?_ | refine OnB.next ?_))) | (with_reducible refine ret_n rfl ?_) | ((with_reducible first | refine DV.mk rfl ?_ | refine DV.mkg rfl rfl ?_); (first | (apply DVop.callq_ rfl rfl rfl rfl (h1 := lives_dc _ _ _ _ _ _ _); (repeat (first | exact Les.nil | refine Les.cons le.rfl_ ?_ | refine Les.cons (le.gs rfl) ?_ | refine Les.cons (le.gs List.map_nil.symm) ?_ | refine Les.cons (le.agg ?_) ?_)); (repeat (with_reducible first | exact Pulled.nil | apply Pulled.cons | exact Took.here | apply Took.next)); refine And.intro ?_ ?_; (exact sv)) | (refine DVop.loada_ rfl rfl rfl rfl ?_; (repeat (with_reducible first | refine OnA.here ?_ | refine OnA.next ?_))) | (refine DVop.load_ rfl rfl rfl rfl ?_; (repeat (with_reducible first | refine OnB.here ?_ | refine OnB.mid ?_ | refine OnB.next ?_))) | (refine DVop.f_ rfl ?_))) | (first | (apply DOp.callq_ rfl rfl (h := lives_dc _ _ _ _ _ _ _); (repeat (first | exact Les.nil | refine Les.cons le.rfl_ ?_ | refine Les.cons (le.gs rfl) ?_ | refine Les.cons (le.gs List.map_nil.symm) ?_ | refine Les.cons (le.agg ?_) ?_)); (repeat (with_reducible first | exact Pulled.nil | apply Pulled.cons | exact Took.here | apply Took.next)); refine And.intro ?_ ?_; (exact sv); rintro d rfl) | (refine DOp.box_ rfl ?_) | (refine DOp.load_ rfl rfl ?_; (repeat (with_reducible first | refine OnB.here ?_ | refine OnB.mid ?_ | refine OnB.next ?_))) | (refine DOp.loada_ rfl rfl ?_; (repeat (with_reducible first | refine OnA.here ?_ | refine OnA.next ?_))))) <;> (simp (maxSteps := 1000000) (disch := omega) only [push_cast, ↓reduceIte, reduceCtorEq, Nat.reduceAdd, Nat.reduceMul, Nat.reduceLT, Nat.reduceLeDiff, Nat.reduceEqDiff, Nat.reduceSub, Int.reduceToNat, Int.reduceLT, Int.reduceLE, Int.reduceAdd, Int.reduceSub, Int.reduceMul, Int.reduceNeg, Nat.reduceBEq, Int.reduceBEq, Int.reduceBNe, Nat.reduceBNe, Int.reduceEq, encDot, dot_eta, half_eq]))
    | (with_reducible first | refine SeqD.opF [] rfl ?_ | refine SeqD.opgF [] rfl rfl ?_)
    | ((with_reducible first | refine DV.mk rfl ?_ | refine DV.mkg rfl rfl ?_); (refine DVop.mv_ rfl ?_))
    | with_reducible intro b)
  all_goals first
  | (refine ⟨((i + j) / 2 + 1, j), ⟨by simp only; omega, by simp only; omega, .inr (by simpa using (lives_lt _ _).1 (by assumption)), h2⟩, by simp only; omega, by simp [Sub, get], ?_⟩; (repeat (with_reducible first | exact SubP.refl | exact SubP.nil | refine SubP.pick ?_ | refine Out.here ?_ | refine Out.next ?_ | refine SubP.drop ?_)); done)
  | (refine ⟨(i, (i + j) / 2), ⟨by simp only; omega, by simp only; omega, h1, .inr ((lives_nlt _ _).1 (by assumption))⟩, by simp only; omega, by simp [Sub, get], ?_⟩; (repeat (with_reducible first | exact SubP.refl | exact SubP.nil | refine SubP.pick ?_ | refine Out.here ?_ | refine Out.next ?_ | refine SubP.drop ?_)); done)
  | (obtain rfl : j = i := by omega
     have hp := bsD (x := ⟨x1, x2, x3⟩) hr hj h1 h2
     have hf : foundB l ⟨x1, x2, x3⟩ = (livesI (l.getD j default) ⟨x1, x2, x3⟩ == 0) := by rw [foundB, hp, decide_eq_true (by omega), Bool.true_and]
     rw [hp, hf]; (refine ⟨_, _, ?_, ⟨rfl, rfl⟩, ?_⟩; (first | exact le.rfl_ | exact le.gs rfl | refine le.of_eq ?_ | refine le.gs ?_); rotate_left; (repeat (with_reducible first | exact SubP.refl | exact SubP.nil | refine SubP.pick ?_ | refine Out.here ?_ | refine Out.next ?_ | refine SubP.drop ?_))); done)
  | (obtain rfl : j = i := by omega
     have hp := bsD (x := ⟨x1, x2, x3⟩) hr hj h1 h2
     have hf : foundB l ⟨x1, x2, x3⟩ = false := by rw [foundB, hp, decide_eq_false (by omega), Bool.false_and]
     rw [hp, hf]; (refine ⟨_, _, ?_, ⟨rfl, rfl⟩, ?_⟩; (first | exact le.rfl_ | exact le.gs rfl | refine le.of_eq ?_ | refine le.gs ?_); rotate_left; (repeat (with_reducible first | exact SubP.refl | exact SubP.nil | refine SubP.pick ?_ | refine Out.here ?_ | refine Out.next ?_ | refine SubP.drop ?_))); done)
end Go.Proofs.YtfamfamgopchnaaGreatDoor
