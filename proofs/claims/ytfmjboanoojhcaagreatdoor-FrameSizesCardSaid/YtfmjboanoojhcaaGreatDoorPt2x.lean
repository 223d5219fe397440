/- What the program finds among dots. -/
import Derived.Test.YtfmjboanoojhcaaGreatDoorRa1x
import Derived.KernelRfl
import Derived.Test.YtfmjboanoojhcaaGreatDoorSox
import Derived.Shelf.Strings.Split
import Derived.Test.YtfmjboanoojhcaaGreatDoorProg
namespace Go.Proofs.YtfmjboanoojhcaaGreatDoor
open Go.RowKit
set_option linter.unusedSimpArgs false
set_option linter.unusedVariables false
set_option linter.unusedSectionVars false
set_option maxHeartbeats 4000000
set_option maxRecDepth 100000


theorem lives_nlt (a b : TDot) : (0 ≤ livesI a b) ↔ ahead a b = false := by
  rw [← Bool.not_eq_true, ← lives_lt]; omega
theorem dotOk_eq (l : List TDot) (k : Nat) : dotOk l k = (oneB (l.getD k default) && (decide (k = 0) || ahead (l.getD (k - 1) default) (l.getD k default))) := rfl
theorem dotOk_no1 {l : List TDot} {k : Nat} (h : oneB (l.getD k default) = false) : dotOk l k = false := by rw [dotOk_eq, h]; rfl
theorem dotOk_no2 {l : List TDot} {k : Nat} (hk : 0 < (k : Int)) (h : 0 ≤ livesI (l.getD ((k : Int) - 1).toNat default) (l.getD k default)) : dotOk l k = false := by
  rw [show ((k : Int) - 1).toNat = k - 1 by omega, lives_nlt] at h
  rw [dotOk_eq, h, show decide (k = 0) = false by simp; omega]; simp
theorem dotOk_yes0 {l : List TDot} {k : Nat} (h1 : oneB (l.getD k default) = true) (hk : (k : Int) ≤ 0) : dotOk l k = true := by rw [dotOk_eq, h1, show decide (k = 0) = true by simp; omega]; rfl
theorem dotOk_yes {l : List TDot} {k : Nat} (h1 : oneB (l.getD k default) = true) (h : livesI (l.getD ((k : Int) - 1).toNat default) (l.getD k default) < 0) (hk : 0 < (k : Int)) : dotOk l k = true := by
  rw [show ((k : Int) - 1).toNat = k - 1 by omega, lives_lt] at h
  rw [dotOk_eq, h1, h]; simp
def foundB (l : List TDot) (x : TDot) : Bool := decide (placeD l x < l.length) && (livesI (l.getD (placeD l x) default) x == 0)
theorem bs_end {lt : Nat → Bool} {n i : Nat} (hm : ∀ a b, a ≤ b → b < n → lt b = true → lt a = true) (hi : i ≤ n) (h1 : i = 0 ∨ lt (i - 1) = true) (h2 : i = n ∨ lt i = false) : firstK (fun k => !lt k) n 0 = i := by
  have hlow : ∀ q, 0 ≤ q → q < i → (!lt q) = false := fun q _ hq => by
    rcases h1 with h1 | h1
    · omega
    · rw [hm q (i - 1) (by omega) (by omega) h1]; rfl
  rcases Nat.lt_or_ge i n with h | h
  · rcases h2 with h2 | h2
    · omega
    · exact firstK_at _ n 0 i (Nat.zero_le _) (by omega) hlow (by rw [h2]; rfl)
  · have : i = n := by omega
    subst this
    have := firstK_no (fun k => !lt k) i 0 (fun q h3 h4 => hlow q h3 (by omega))
    omega
theorem ahead_mono {l : List TDot} (h : rightB l = true) (x : TDot) : ∀ a b, a ≤ b → b < l.length → ahead (l.getD b default) x = true → ahead (l.getD a default) x = true := fun a b hab hb ha => by
  rcases Nat.eq_or_lt_of_le hab with rfl | hlt
  · exact ha
  · exact ahead_trans _ _ _ (pw_at (right_iff.1 h).1 hlt hb) ha
theorem bsD {l : List TDot} (h : rightB l = true) {x : TDot} {i : Nat} (hi : i ≤ l.length) (h1 : i = 0 ∨ ahead (l.getD (i - 1) default) x = true) (h2 : i = l.length ∨ ahead (l.getD i default) x = false) : placeD l x = i := bs_end (ahead_mono h x) hi h1 h2
theorem half_eq {i j : Nat} (h : (i : Int) + (j : Int) ≤ 4000000000) : IntKind.i64.wrap (((i : Int) + (j : Int)).fdiv (2 ^ min 1 IntKind.u64.bits)) = (((i + j) / 2 : Nat) : Int) := by
  have e : (2 : Int) ^ min 1 IntKind.u64.bits = 2 := by decide
  rw [e, Int.fdiv_eq_ediv_of_nonneg _ (by decide), wrap_i64] <;> omega
theorem top_bs {l : List TDot} (h : rightB l = true) (n e m : Int) : topM l n e = if foundB l ⟨n, e, m⟩ = true then (l.getD (placeD l ⟨n, e, m⟩) default).n else 0 := by
  obtain ⟨h1, h2, h3, h4⟩ := firstK_le (fun i => !ahead (l.getD i default) ⟨n, e, m⟩) l.length 0
  obtain ⟨p, hp⟩ : ∃ p, p = placeD l ⟨n, e, m⟩ := ⟨_, rfl⟩
  have hp' : firstK (fun i => !ahead (l.getD i default) ⟨n, e, m⟩) l.length 0 = p := hp.symm
  rw [hp'] at h1 h2 h3 h4
  unfold foundB
  rw [← hp]
  split
  · rename_i hc
    simp only [Bool.and_eq_true, decide_eq_true_eq, beq_iff_eq] at hc
    have hz := (lives_z _ _).1 hc.2
    have := top_mem h (getD_mem hc.1)
    simp only at hz
    rw [← hz.1, ← hz.2]; exact this
  · rename_i hc
    refine top_none h fun d hd hk => ?_
    obtain ⟨q, hq, rfl⟩ := mem_getD hd
    have hqa : ahead (l.getD q default) ⟨n, e, m⟩ = false := by
      rw [ahead_not]; simp only; omega
    have hpq : p ≤ q := by
      rcases Nat.lt_or_ge q p with h5 | h5
      · have := h3 q (Nat.zero_le _) h5
        rw [hqa] at this; cases this
      · exact h5
    have hpa : ahead (l.getD p default) ⟨n, e, m⟩ = false := by simpa using h4 (by omega)
    rcases Nat.eq_or_lt_of_le hpq with rfl | hlt
    · refine hc ?_
      simp only [Bool.and_eq_true, decide_eq_true_eq, beq_iff_eq]
      exact ⟨hq, (lives_z _ _).2 hk⟩
    · have h6 := ahead_iff.1 (pw_at (right_iff.1 h).1 hlt hq)
      rw [ahead_not] at hpa
      simp only at hpa
      omega
attribute [local irreducible] DW SeqD DV DOp DC DVX
section
attribute [local push_cast 2000] encDot dot_eta
theorem pright_dc (l : List TDot) (F : Own) : (l.length ≤ 1000000000) → DC Tryz.prog 64 [.sl (l.map encDot)] (([] : Own) ++ F) fun d G => d = .bool (rightB l) ∧ G = [] ++ F := by
  intro hA
  have hl := hA
  refine DC.bodyS (n_ := 30) (show Tryz.prog.funcs[64]? = some Tryz.f64 by kernel_rfl) rfl rfl (by rfl) ?_
  simp only [env0, List.cons_append, List.nil_append]
  have kw := ksIs [0, 2, 3, 4, 5, 6, 7, 8, 28]
  have ow := ownIs []
  have dw4 := drIs 4 [] [0, 1, 11, 12, 13]
  repeat' (first
    | ((with_reducible refine DW.loopB 0 (X := Nat) (fun x => x ≤ l.length ∧ allK (dotOk l) x = true) (fun x => [(0, .sl (l.map encDot)), (5, .sl (l.map encDot)), (6, .int .i64 l.length), (7, .int .i64 x)]) (fun x => ([] : Own)) (fun x => l.length - x) (0) ?_ ?_ ?_); exact (⟨Nat.zero_le _, rfl⟩); (simp [Sub, get, keepL] <;> fail); (try simp only [List.cons_append, List.nil_append]); refine pl_ ?_; intro k ⟨hk, ha⟩; (try simp only [List.cons_append, List.nil_append]))
    | refine g_ ?_
    | ((with_reducible refine And.intro ?_ ?_); (exact sv))
    | (refine DW.cond (by rfl) ?_ ?_ <;> (first | exact i0_ | (refine ic_ ?_; intro hb)))
    | ((with_reducible first | refine FVg_cases ?_ ?_ | refine FDg_cases ?_ ?_) <;> (intro hb; rw [hb]; revert hb; (first | exact i0_ | (refine i_ ?_; intro hb))))
    | refine r_ ?_
    | refine d_ ?_
    | refine k_ ?_
    | ((refine dm_ ?_); (first | ((first | refine v_ (may_dc _ _ _ _) ?_ | refine v_ (lives_dc _ _ _ _ _ _ _) ?_))))
    | refine vo_ ?_
    | ((first | refine q_ (may_dc _ _ _ _) ?_ | refine q_ (lives_dc _ _ _ _ _ _ _) ?_))
    | refine o_ ?_
    | refine f_ ?_
    | refine vm_ ?_
    | with_reducible intro b)
  all_goals first
  | (have hk0 : k = l.length := by omega
     subst hk0
     rw [show rightB l = true from ha]; (first | exact fin_ | refine finq_ ?_); done)
  | (rw [show rightB l = false from allK_not (dotOk_no1 (by assumption)) (by omega)]; (first | exact fin_ | refine finq_ ?_); done)
  | (rw [show rightB l = false from allK_not (dotOk_no2 (by assumption) (by assumption)) (by omega)]; (first | exact fin_ | refine finq_ ?_); done)
  | (refine ⟨k + 1, ⟨by omega, allK_next ha (dotOk_yes (by assumption) (by assumption) (by assumption))⟩, by omega, by simp [Sub, get], ?_⟩; (exact sub_); done)
  | (refine ⟨k + 1, ⟨by omega, allK_next ha (dotOk_yes0 (by assumption) (by assumption))⟩, by omega, by simp [Sub, get], ?_⟩; (exact sub_); done)
end
section
attribute [local push_cast 2000] encDot dot_eta half_eq
theorem bsd_dc (l : List TDot) (x1 x2 x3 : Int) (F : Own) : (rightB l = true ∧ l.length ≤ 1000000000) → DC Tryz.prog 198 [.sl (l.map encDot), .agg [.int .i64 x1, .int .i64 x2, .int .i64 x3], .fn (.func 126) [] []] (([] : Own) ++ F) fun d G => d = .tup [.int .i64 (placeD l ⟨x1, x2, x3⟩), .bool (foundB l ⟨x1, x2, x3⟩)] ∧ G = [] ++ F := by
  intro hA
  obtain ⟨hr, hl⟩ := hA
  refine DC.bodyS (n_ := 49) (show Tryz.prog.funcs[198]? = some Tryz.f198 by kernel_rfl) rfl rfl (by rfl) ?_
  simp only [env0, List.cons_append, List.nil_append]
  have kw := ksIs [0, 1, 2, 4, 6, 7, 8, 9, 10, 11, 17, 31]
  have ow := ownIs []
  have dw5 := drIs 5 [] [4, 5, 6]
  have dw8 := drIs 8 [] [9, 10, 11]
  repeat' (first
    | ((with_reducible refine DW.loopB 0 (X := Nat × Nat) (fun x => x.1 ≤ x.2 ∧ x.2 ≤ l.length ∧ (x.1 = 0 ∨ ahead (l.getD (x.1 - 1) default) ⟨x1, x2, x3⟩ = true) ∧ (x.2 = l.length ∨ ahead (l.getD x.2 default) ⟨x1, x2, x3⟩ = false)) (fun x => [(0, .sl (l.map encDot)), (2, .fn (.func 126) [] []), (4, .sp [.int .i64 x1, .int .i64 x2, .int .i64 x3]), (8, .int .i64 l.length), (9, .int .i64 x.1), (10, .int .i64 x.2)]) (fun x => ([] : Own)) (fun x => x.2 - x.1) ((0, l.length)) ?_ ?_ ?_); exact (⟨Nat.zero_le _, Nat.le_refl _, .inl rfl, .inl rfl⟩); (simp [Sub, get, keepL] <;> fail); (try simp only [List.cons_append, List.nil_append]); refine pl_ ?_; intro ⟨i, j⟩ ⟨hij, hj, h1, h2⟩; (try simp only [List.cons_append, List.nil_append]); simp only at hij hj h1 h2)
    | refine g_ ?_
    | ((with_reducible refine And.intro ?_ ?_); (exact sv))
    | (refine DW.cond (by rfl) ?_ ?_ <;> (first | exact i0_ | (refine ic_ ?_; intro hb)))
    | ((with_reducible first | refine FVg_cases ?_ ?_ | refine FDg_cases ?_ ?_) <;> (intro hb; rw [hb]; revert hb; (first | exact i0_ | (refine i_ ?_; intro hb))))
    | refine r_ ?_
    | refine d_ ?_
    | refine k_ ?_
    | ((refine dm_ ?_); (first | (refine v_ (lives_dc _ _ _ _ _ _ _) ?_)))
    | refine vo_ ?_
    | (refine q_ (lives_dc _ _ _ _ _ _ _) ?_)
    | refine o_ ?_
    | refine f_ ?_
    | refine vm_ ?_
    | with_reducible intro b)
  all_goals first
  | (refine ⟨((i + j) / 2 + 1, j), ⟨by simp only; omega, by simp only; omega, .inr (by simpa using (lives_lt _ _).1 (by assumption)), h2⟩, by simp only; omega, by simp [Sub, get], ?_⟩; (exact sub_); done)
  | (refine ⟨(i, (i + j) / 2), ⟨by simp only; omega, by simp only; omega, h1, .inr ((lives_nlt _ _).1 (by assumption))⟩, by simp only; omega, by simp [Sub, get], ?_⟩; (exact sub_); done)
  | (obtain rfl : j = i := by omega
     have hp := bsD (x := ⟨x1, x2, x3⟩) hr hj h1 h2
     have hf : foundB l ⟨x1, x2, x3⟩ = (livesI (l.getD j default) ⟨x1, x2, x3⟩ == 0) := by rw [foundB, hp, decide_eq_true (by omega), Bool.true_and]
     rw [hp, hf]; (first | exact fin_ | refine finq_ ?_); done)
  | (obtain rfl : j = i := by omega
     have hp := bsD (x := ⟨x1, x2, x3⟩) hr hj h1 h2
     have hf : foundB l ⟨x1, x2, x3⟩ = false := by rw [foundB, hp, decide_eq_false (by omega), Bool.false_and]
     rw [hp, hf]; (first | exact fin_ | refine finq_ ?_); done)
end
end Go.Proofs.YtfmjboanoojhcaaGreatDoor
/- The last deed that was seen; how dots, routes stand. -/
namespace Go.Proofs.YtfmjboanoojhcaaGreatDoor
open Go.RowKit
set_option linter.unusedSimpArgs false
set_option linter.unusedVariables false
set_option linter.unusedSectionVars false
set_option maxHeartbeats 4000000
set_option maxRecDepth 100000


theorem found_lt {l : List TDot} {x : TDot} (h : foundB l x = true) : placeD l x < l.length := by
  simp only [foundB, Bool.and_eq_true, decide_eq_true_eq] at h; exact h.1
theorem bsd2_dc (l : List TDot) (x1 x2 x3 : Int) (F : Own) : (rightB l = true ∧ l.length ≤ 1000000000) → DC Tryz.prog 198 [.sl (l.map encDot), .agg [.int .i64 x1, .int .i64 x2, .int .i64 x3], .fn (.func 126) [] []] (([] : Own) ++ F) fun d G => (foundB l ⟨x1, x2, x3⟩ = true ∧ placeD l ⟨x1, x2, x3⟩ < l.length ∧ d = .tup [.int .i64 (placeD l ⟨x1, x2, x3⟩), .bool true] ∨ foundB l ⟨x1, x2, x3⟩ = false ∧ d = .tup [.int .i64 (placeD l ⟨x1, x2, x3⟩), .bool false]) ∧ G = [] ++ F := fun h =>
  (bsd_dc l x1 x2 x3 F h).mono fun d G ⟨h1, h2⟩ => ⟨by
    cases hf : foundB l ⟨x1, x2, x3⟩ with
    | true => rw [hf] at h1; exact .inl ⟨rfl, found_lt hf, h1⟩
    | false => rw [hf] at h1; exact .inr ⟨rfl, h1⟩, h2⟩
theorem top_wrong {l : List TDot} (h : rightB l = false) (n e : Int) : topM l n e = 0 := by rw [topM, if_neg (by rw [h]; simp)]
theorem before_dec (a b : TDot) : decide (orI (livesI a b) (cmpI a.n b.n) < 0) = before a b := by
  rw [Bool.eq_iff_iff, decide_eq_true_iff]; exact before_lt a b
theorem order_dec (a b : TRoute) : decide (orderI a b < 0) = rbefore a b := by
  rw [Bool.eq_iff_iff, decide_eq_true_iff]; exact orderI_lt a b
attribute [local irreducible] DW SeqD DV DOp DC DVX
section
attribute [local push_cast 2000] encDot dot_eta
theorem topd_dc (l : List TDot) (x1 x2 x3 : Int) (F : Own) : (rightB l = true ∧ l.length ≤ 1000000000) → DC Tryz.prog 221 [.sl (l.map encDot), .agg [.int .i64 x1, .int .i64 x2, .int .i64 x3]] (([] : Own) ++ F) fun d G => d = .int .i64 (topM l x1 x2) ∧ G = [] ++ F := by
  intro hA
  obtain ⟨hr, hl⟩ := hA
  refine DC.bodyS (n_ := 19) (show Tryz.prog.funcs[221]? = some Tryz.f221 by kernel_rfl) rfl rfl (by rfl) ?_
  simp only [env0, List.cons_append, List.nil_append]
  have kw := ksIs [0, 1, 3, 4, 5, 6, 13]
  have ow := ownIs []
  have ht := top_bs hr x1 x2 x3
  repeat' (first
    | refine g_ ?_
    | ((with_reducible refine And.intro ?_ ?_); (exact sv))
    | (refine DW.cond (by rfl) ?_ ?_ <;> (first | exact i0_ | (refine ic_ ?_; intro hb)))
    | ((with_reducible refine FVg_cases ?_ ?_) <;> (intro hb; rw [hb]; revert hb; (first | exact i0_ | (refine i_ ?_; intro hb))))
    | refine r_ ?_
    | refine k_ ?_
    | (refine p_ (bsd2_dc _ _ _ _ _) ?_; rintro d H1 ⟨⟨hf, hpl, rfl⟩ | ⟨hf, rfl⟩, rfl⟩ <;> refine s_ ?_)
    | refine o_ ?_
    | refine f_ ?_
    | with_reducible intro b)
  all_goals first
  | (rw [ht, if_pos hf]; (first | exact fin_ | refine finq_ ?_); done)
  | (rw [ht, if_neg (by rw [hf]; simp)]; (first | exact fin_ | refine finq_ ?_); done)
end
theorem ptop_dc (l : List TDot) (node epoch : Int) (F : Own) : (l.length ≤ 1000000000) → DC Tryz.prog 179 [.sl (l.map encDot), .int .i64 node, .int .i64 epoch] (([] : Own) ++ F) fun d G => d = .int .i64 (topM l node epoch) ∧ G = [] ++ F := by
  intro hA
  have hl := hA
  refine DC.bodyS (n_ := 15) (show Tryz.prog.funcs[179]? = some Tryz.f179 by kernel_rfl) rfl rfl (by rfl) ?_
  simp only [env0, List.cons_append, List.nil_append]
  have kw := ksIs [0, 1, 2, 6, 9]
  have ow := ownIs []
  repeat' (first
    | refine g_ ?_
    | ((with_reducible refine And.intro ?_ ?_); (exact sv))
    | (refine DW.cond (by rfl) ?_ ?_ <;> (first | exact i0_ | (refine ic_ ?_; intro hb)))
    | ((with_reducible refine FVg_cases ?_ ?_) <;> (intro hb; rw [hb]; revert hb; (first | exact i0_ | (refine i_ ?_; intro hb))))
    | refine r_ ?_
    | refine k_ ?_
    | ((first | refine q_ (pright_dc _ _) ?_ | refine q_ (topd_dc _ _ _ _ _) ?_))
    | refine o_ ?_
    | refine f_ ?_
    | with_reducible intro b)
  all_goals first
  | (rw [top_wrong (by assumption)]; (first | exact fin_ | refine finq_ ?_); done)
  | ((first | exact fin_ | refine finq_ ?_); done)
theorem pbefore_dc (a1 a2 a3 b1 b2 b3 : Int) (F : Own) : (True) → DC Tryz.prog 201 [.agg [.int .i64 a1, .int .i64 a2, .int .i64 a3], .agg [.int .i64 b1, .int .i64 b2, .int .i64 b3]] (([] : Own) ++ F) fun d G => d = .bool (before ⟨a1, a2, a3⟩ ⟨b1, b2, b3⟩) ∧ G = [] ++ F := by
  intro hA
  refine DC.bodyS (n_ := 16) (show Tryz.prog.funcs[201]? = some Tryz.f201 by kernel_rfl) rfl rfl (by rfl) ?_
  simp only [env0, List.cons_append, List.nil_append]
  have kw := ksIs [0, 1, 2, 3, 4]
  have ow := ownIs []
  have dw1 := drIs 1 [] [0, 1, 2, 4, 6, 7, 9]
  repeat' (first
    | refine g_ ?_
    | ((with_reducible refine And.intro ?_ ?_); (exact sv))
    | (refine DW.cond (by rfl) ?_ ?_ <;> (first | exact i0_ | (refine ic_ ?_; intro hb)))
    | ((with_reducible first | refine FVg_cases ?_ ?_ | refine FDg_cases ?_ ?_) <;> (intro hb; rw [hb]; revert hb; (first | exact i0_ | (refine i_ ?_; intro hb))))
    | refine r_ ?_
    | refine d_ ?_
    | refine k_ ?_
    | ((refine dm_ ?_); (first | ((first | refine v_ (cmpi_dc _ _ _) ?_ | refine v_ (or2_dc _ _ _) ?_ | refine v_ (lives_dc _ _ _ _ _ _ _) ?_))))
    | refine vo_ ?_
    | ((first | refine q_ (cmpi_dc _ _ _) ?_ | refine q_ (or2_dc _ _ _) ?_ | refine q_ (lives_dc _ _ _ _ _ _ _) ?_))
    | refine o_ ?_
    | refine f_ ?_
    | refine vm_ ?_
    | with_reducible intro b)
  all_goals
    refine ⟨_, _, le.of_eq ?_, ⟨rfl, rfl⟩, SubP.refl⟩
    rw [← before_dec]
theorem order_dc (a1 a2 a3 : Int) (f1 : Str) (b1 b2 b3 : Int) (f2 : Str) (F : Own) : (True) → DC Tryz.prog 176 [.agg [.int .i64 a1, .int .i64 a2, .int .i64 a3, .str f1], .agg [.int .i64 b1, .int .i64 b2, .int .i64 b3, .str f2]] (([] : Own) ++ F) fun d G => d = .int .i64 (orderI ⟨⟨a1, a2, a3⟩, f1⟩ ⟨⟨b1, b2, b3⟩, f2⟩) ∧ G = [] ++ F := by
  intro hA
  refine DC.bodyS (n_ := 26) (show Tryz.prog.funcs[176]? = some Tryz.f176 by kernel_rfl) rfl rfl (by rfl) ?_
  simp only [env0, List.cons_append, List.nil_append]
  have kw := ksIs [0, 1, 2, 3, 4, 5, 12, 14, 20]
  have ow := ownIs []
  repeat' (first
    | refine g_ ?_
    | ((with_reducible refine And.intro ?_ ?_); (exact sv))
    | (refine DW.cond (by rfl) ?_ ?_ <;> (first | exact i0_ | (refine ic_ ?_; intro hb)))
    | ((with_reducible refine FVg_cases ?_ ?_) <;> (intro hb; rw [hb]; revert hb; (first | exact i0_ | (refine i_ ?_; intro hb))))
    | refine r_ ?_
    | refine k_ ?_
    | ((first | refine q_ (cmps_dc _ _ _) ?_ | refine q_ (pbefore_dc _ _ _ _ _ _ _) ?_))
    | refine o_ ?_
    | refine f_ ?_
    | with_reducible intro b)
  all_goals
    refine ⟨_, _, le.of_eq ?_, ⟨rfl, rfl⟩, SubP.refl⟩
    unfold orderI
    simp_all
theorem prbefore_dc (a1 a2 a3 : Int) (f1 : Str) (b1 b2 b3 : Int) (f2 : Str) (F : Own) : (True) → DC Tryz.prog 107 [.agg [.int .i64 a1, .int .i64 a2, .int .i64 a3, .str f1], .agg [.int .i64 b1, .int .i64 b2, .int .i64 b3, .str f2]] (([] : Own) ++ F) fun d G => d = .bool (rbefore ⟨⟨a1, a2, a3⟩, f1⟩ ⟨⟨b1, b2, b3⟩, f2⟩) ∧ G = [] ++ F := by
  intro hA
  refine DC.bodyS (n_ := 9) (show Tryz.prog.funcs[107]? = some Tryz.f107 by kernel_rfl) rfl rfl (by rfl) ?_
  simp only [env0, List.cons_append, List.nil_append]
  have kw := ksIs [0, 1, 2, 3, 4]
  have ow := ownIs []
  repeat' (first
    | refine g_ ?_
    | ((with_reducible refine And.intro ?_ ?_); (exact sv))
    | (refine DW.cond (by rfl) ?_ ?_ <;> (first | exact i0_ | (refine ic_ ?_; intro hb)))
    | ((with_reducible refine FVg_cases ?_ ?_) <;> (intro hb; rw [hb]; revert hb; (first | exact i0_ | (refine i_ ?_; intro hb))))
    | refine r_ ?_
    | refine k_ ?_
    | (refine q_ (order_dc _ _ _ _ _ _ _ _ _) ?_)
    | refine o_ ?_
    | refine f_ ?_
    | with_reducible intro b)
  all_goals
    refine ⟨_, _, le.of_eq ?_, ⟨rfl, rfl⟩, SubP.refl⟩
    rw [← order_dec]
end Go.Proofs.YtfmjboanoojhcaaGreatDoor
/- Copies of rows, owned. -/
namespace Go.Proofs.YtfmjboanoojhcaaGreatDoor
open Go.RowKit
set_option linter.unusedSimpArgs false
set_option linter.unusedVariables false
set_option linter.unusedSectionVars false
set_option maxHeartbeats 4000000
set_option maxRecDepth 100000

attribute [local irreducible] DW SeqD DV DOp DC DVX DVJ
section
attribute [local push_cast 2000] encDot
end
section
attribute [local push_cast 2000] encFence
end
section
attribute [local push_cast 2000] encRoute
end
section
attribute [local push_cast 2000] encCell
end
section
attribute [local push_cast 2000] u8
end
end Go.Proofs.YtfmjboanoojhcaaGreatDoor
/- A table in new memory. -/
namespace Go.Proofs.YtfmjboanoojhcaaGreatDoor
open Go.RowKit
set_option linter.unusedSimpArgs false
set_option linter.unusedVariables false
set_option linter.unusedSectionVars false
set_option maxHeartbeats 4000000
set_option maxRecDepth 100000


theorem cells_enccell (l : List TCell) : (cells (l.map encCell)).length = l.length * 10 := by rw [cells_len (sz := 10) _ (fun y hy => by obtain ⟨x, _, rfl⟩ := List.mem_map.1 hy; rfl), List.length_map]
theorem lay_same {cs : List V} {k : Nat} {d : V} (hk : k < cs.length) (h : cs.getD k .any = d) : layV cs k [d] = cs := by
  unfold layV
  rw [← h]
  apply List.ext_getElem?
  intro i
  rw [List.append_assoc]
  rcases Nat.lt_trichotomy i k with hi | hi | hi
  · rw [List.getElem?_append_left (by simp; omega), List.getElem?_take, if_pos hi]
  · subst hi
    rw [List.getElem?_append_right (by simp; omega), List.length_take, Nat.min_eq_left (by omega), Nat.sub_self]
    rw [List.getElem?_append_left (by simp), List.getD_eq_getElem?_getD, List.getElem?_eq_getElem hk]; rfl
  · rw [List.getElem?_append_right (by simp; omega), List.length_take, Nat.min_eq_left (by omega), List.getElem?_append_right (by simp; omega), List.getElem?_drop]
    congr 1
    simp; omega
theorem cell_pay {ce : List TCell} {k : Nat} (hk : k < ce.length) : (cells (ce.map encCell)).getD (k * 10 + 7) .any = .sl ((ce.getD k default).payload.map u8) := by
  rw [cells_at (sz := 10) _ k 7 (fun y hy => by obtain ⟨x, _, rfl⟩ := List.mem_map.1 hy; rfl) (by simpa using hk) (by decide)]
  simp [List.getD_eq_getElem?_getD, hk, encCell, V.cell]
theorem cell_get {ce : List TCell} {k : Nat} (hk : k < ce.length) : (List.drop (k * 10 + 7) (cells (ce.map encCell))).getD 0 .any = .sl ((ce.getD k default).payload.map u8) := by
  rw [← cell_pay hk]; simp [List.getD_eq_getElem?_getD, List.getElem?_drop]
theorem cell_lay {ce : List TCell} {k : Nat} (hk : k < ce.length) : layV (cells (ce.map encCell)) (k * 10 + 7) [.sl ((ce.getD k default).payload.map u8)] = cells (ce.map encCell) := lay_same (by rw [cells_enccell]; omega) (cell_pay hk)
attribute [local irreducible] DW SeqD DV DOp DC DVX DVJ
section
attribute [local push_cast 2000] cell_lay cells_enccell cell_get
end
end Go.Proofs.YtfmjboanoojhcaaGreatDoor
/- strings.Split, as it lies in this program (printed by the kit). -/
namespace Go.Proofs.YtfmjboanoojhcaaGreatDoor
open Go.Shelf Go.RowKit
set_option linter.unusedVariables false
def laySplit_ren : Go.Shelf.Ren := ⟨fun | 146 => 219 | 221 => 259 | 268 => 277 | 138 => 278 | 143 => 279 | 195 => 285 | 197 => 286 | 218 => 287 | 219 => 288 | 260 => 289 | 217 => 290 | 225 => 291 | 224 => 292 | 267 => 293 | 266 => 294 | 314 => 295 | n => n, fun | 9 => 9 | 31 => 124 | 3 => 3 | 4 => 4 | 0 => 0 | 105 => 230 | 21 => 21 | 5 => 5 | 46 => 159 | 119 => 275 | 139 => 278 | 138 => 277 | 146 => 286 | 51 => 225 | n => n, fun | 1 => 3 | 3 => 1 | 4 => 2 | n => n⟩
theorem laySplit : Go.Proofs.Lays.n146 Tryz.prog laySplit_ren := {
  mixed := by kernel_rfl
  f138 := Tryz.func278.trans (congrArg some (by kernel_rfl))
  f143 := Tryz.func279.trans (congrArg some (by kernel_rfl))
  f146 := Tryz.func219.trans (congrArg some (by kernel_rfl))
  f195 := Tryz.func285.trans (congrArg some (by kernel_rfl))
  f197 := Tryz.func286.trans (congrArg some (by kernel_rfl))
  f217 := Tryz.func290.trans (congrArg some (by kernel_rfl))
  f218 := Tryz.func287.trans (congrArg some (by kernel_rfl))
  f219 := Tryz.func288.trans (congrArg some (by kernel_rfl))
  f221 := Tryz.func259.trans (congrArg some (by kernel_rfl))
  f224 := Tryz.func292.trans (congrArg some (by kernel_rfl))
  f225 := Tryz.func291.trans (congrArg some (by kernel_rfl))
  f260 := Tryz.func289.trans (congrArg some (by kernel_rfl))
  f266 := Tryz.func294.trans (congrArg some (by kernel_rfl))
  f267 := Tryz.func293.trans (congrArg some (by kernel_rfl))
  f268 := Tryz.func277.trans (congrArg some (by kernel_rfl))
  f314 := Tryz.func295.trans (congrArg some (by kernel_rfl))
  t0 := Tryz.underlying0
  a0 := Tryz.isAgg0
  z0 := Tryz.sizeOf0
  v0 := Tryz.zeroValue0
  t3 := Tryz.underlying3
  a3 := Tryz.isAgg3
  z3 := Tryz.sizeOf3
  v3 := Tryz.zeroValue3
  t4 := Tryz.underlying4
  a4 := Tryz.isAgg4
  z4 := Tryz.sizeOf4
  v4 := Tryz.zeroValue4
  t5 := Tryz.underlying5
  a5 := Tryz.isAgg5
  z5 := Tryz.sizeOf5
  v5 := Tryz.zeroValue5
  t9 := Tryz.underlying9
  a9 := Tryz.isAgg9
  z9 := Tryz.sizeOf9
  v9 := Tryz.zeroValue9
  t21 := Tryz.underlying21
  a21 := Tryz.isAgg21
  z21 := Tryz.sizeOf21
  v21 := Tryz.zeroValue21
  t31 := Tryz.underlying124
  a31 := Tryz.isAgg124
  z31 := Tryz.sizeOf124
  v31 := Tryz.zeroValue124
  t46 := Tryz.underlying159
  a46 := Tryz.isAgg159
  z46 := Tryz.sizeOf159
  v46 := Tryz.zeroValue159
  t51 := Tryz.underlying225
  a51 := Tryz.isAgg225
  z51 := Tryz.sizeOf225
  v51 := Tryz.zeroValue225
  t105 := Tryz.underlying230
  a105 := Tryz.isAgg230
  z105 := Tryz.sizeOf230
  v105 := Tryz.zeroValue230
  t119 := Tryz.underlying275
  a119 := Tryz.isAgg275
  z119 := Tryz.sizeOf275
  t138 := Tryz.underlying277
  a138 := Tryz.isAgg277
  z138 := Tryz.sizeOf277
  v138 := Tryz.zeroValue277
  t139 := Tryz.underlying278
  a139 := Tryz.isAgg278
  z139 := Tryz.sizeOf278
  v139 := Tryz.zeroValue278
  t146 := Tryz.underlying286
  a146 := Tryz.isAgg286
  z146 := Tryz.sizeOf286
  v146 := Tryz.zeroValue286
  g1 := by kernel_rfl
  g3 := by kernel_rfl
  g4 := by kernel_rfl }
end Go.Proofs.YtfmjboanoojhcaaGreatDoor
